/- Plain facts for AtomBelow: a dyad of a list with an array is what it is item by item. -/
import Derived.Test.YtdedbfbkakofgaaAtomLenPlain
import Derived.Test.YtdedbfbkakofgaaItemPlain
namespace Go.Proofs.Ytdedbfbkakofgaa
open Go.RowKit Go.Lib
set_option linter.unusedVariables false
set_option linter.unusedSimpArgs false
theorem firE_append (l m : List Int) : firE (l ++ m) = if firE l = 0 then firE m else firE l := by
  by_cases h : firE l = 0
  · rw [if_pos h]
    induction l with
    | nil => rfl
    | cons a l ih =>
      by_cases ha : a = 0
      · rw [List.cons_append, firE_yes _ ha]; rw [firE_yes _ ha] at h; exact ih h
      · rw [firE_no _ ha] at h; exact absurd h ha
  · rw [if_neg h]; exact firE_more l m h
theorem range_mul (f : Nat → Int) (n m : Nat) : (List.range (n * m)).map f = (List.range n).flatMap fun i => (List.range m).map fun j => f (i * m + j) := by
  induction n with
  | zero => simp
  | succ n ih => rw [Nat.add_mul, Nat.one_mul, List.range_add, List.map_append, ih, List.range_succ, List.flatMap_append, List.map_map]; simp [Function.comp_def]
theorem firE_flat (f : Nat → List Int) (n : Nat) : firE ((List.range n).flatMap f) = firE ((List.range n).map fun i => firE (f i)) := by
  induction n with
  | zero => rfl
  | succ n ih =>
    rw [List.range_succ, List.flatMap_append, firE_append, ih, List.map_append, firE_append]
    congr 1
    simp only [List.flatMap_cons, List.flatMap_nil, List.append_nil, List.map_cons, List.map_nil]
    show _ = if _ = 0 then (0 : Int) else _
    split
    · assumption
    · rfl
theorem agl_nil (t : List Int) : agL [] t = t ∧ agE [] t = 0 ∧ agL t [] = t ∧ agE t [] = 0 := by
  cases t with
  | nil => exact ⟨rfl, rfl, rfl, rfl⟩
  | cons x xs => exact ⟨by simp [agL], by simp [agE], by simp [agL], by simp [agE]⟩
theorem agl_one (x : Int) (t : List Int) : agL [x] (x :: t) = x :: t ∧ agE [x] (x :: t) = 0 ∧ agL (x :: t) [x] = x :: t ∧ agE (x :: t) [x] = 0 := by
  cases t with
  | nil => simp [agL, agE]
  | cons y ys => simp [agL, agE]
/-- Two operands: which one is the left one. -/
def sw (q : Bool) (f : Int → Int → Int) (x y : Int) : Int := if q then f y x else f x y
def bE (op : Int) (q : Bool) (s a t b : List Int) : Int := if q then adyE op t b s a else adyE op s a t b
def bS (op : Int) (q : Bool) (s a t b : List Int) : List Int := if q then adyS op t b s a else adyS op s a t b
def bA (op : Int) (q : Bool) (s a t b : List Int) : List Int := if q then adyA op t b s a else adyA op s a t b
theorem b_gen {op : Int} (q : Bool) {s a t b : List Int} {N : Nat} (h1 : amE s a = 0) (h2 : amE t b = 0) (hr : refV op 2 = 0) (h : agE s t = 0) (h' : agE t s = 0) (hl : agL s t = t) (hl' : agL t s = t) (hN : pr t = N) :
    bE op q s a t b = firE ((List.range N).map fun i => sw q (dyE op) (a.getD (i / (N / a.length)) 0) (b.getD (i / (N / b.length)) 0)) ∧
    (bE op q s a t b = 0 → bS op q s a t b = t ∧ bA op q s a t b = (List.range N).map fun i => sw q (dyV op) (a.getD (i / (N / a.length)) 0) (b.getD (i / (N / b.length)) 0)) ∧
    (bE op q s a t b ≠ 0 → bS op q s a t b = [] ∧ bA op q s a t b = []) := by
  have n1 : adyN s t = N := by unfold adyN; rw [hl, hN]; simp
  have n2 : adyN t s = N := by unfold adyN; rw [hl', hN]; simp
  cases q
  · have e : adyE op s a t b = firE ((List.range N).map (dnE op a b N)) := by
      unfold adyE; rw [if_neg (by rw [h1, h2]; simp), if_neg (by rw [hr]; simp), if_neg (by rw [h]; simp), n1]
    refine ⟨e, fun h0 => ⟨?_, ?_⟩, fun h0 => ⟨?_, ?_⟩⟩
    · show adyS op s a t b = t; rw [adyS, if_pos (show adyE op s a t b = 0 from h0), hl]
    · show adyA op s a t b = _; rw [adyA, if_pos (show adyE op s a t b = 0 from h0), n1]; rfl
    · show adyS op s a t b = []; rw [adyS, if_neg (show ¬ adyE op s a t b = 0 from h0)]
    · show adyA op s a t b = []; rw [adyA, if_neg (show ¬ adyE op s a t b = 0 from h0)]
  · have e : adyE op t b s a = firE ((List.range N).map (dnE op b a N)) := by
      unfold adyE; rw [if_neg (by rw [h1, h2]; simp), if_neg (by rw [hr]; simp), if_neg (by rw [h']; simp), n2]
    refine ⟨e, fun h0 => ⟨?_, ?_⟩, fun h0 => ⟨?_, ?_⟩⟩
    · show adyS op t b s a = t; rw [adyS, if_pos (show adyE op t b s a = 0 from h0), hl']
    · show adyA op t b s a = _; rw [adyA, if_pos (show adyE op t b s a = 0 from h0), n2]; rfl
    · show adyS op t b s a = []; rw [adyS, if_neg (show ¬ adyE op t b s a = 0 from h0)]
    · show adyA op t b s a = []; rw [adyA, if_neg (show ¬ adyE op t b s a = 0 from h0)]
/-- The i-th atom with the i-th item. -/
def ibE (op : Int) (q : Bool) (ns t b : List Int) (m i : Nat) : Int := bE op q [] [ns.getD i 0] t (itemA b i m)
def ibA (op : Int) (q : Bool) (ns t b : List Int) (m i : Nat) : List Int := bA op q [] [ns.getD i 0] t (itemA b i m)
theorem itemA_getD {b : List Int} {i j m : Nat} (h : j < m) : (itemA b i m).getD j 0 = b.getD (i * m + j) 0 := by
  unfold itemA
  simp only [List.getD, List.getElem?_take, List.getElem?_drop, if_pos h]
theorem below_gen {op : Int} (q : Bool) {n : Nat} {ns t b : List Int} (h2 : amE ((n : Int) :: t) b = 0) (hr : refV op 2 = 0) (hns : ns.length = n) :
    ∃ m : Nat, n * m = b.length ∧ pr t = m ∧ (∀ i, i < n → amE t (itemA b i m) = 0) ∧
    bE op q [(n : Int)] ns ((n : Int) :: t) b = firE ((List.range n).map (ibE op q ns t b m)) ∧
    (bE op q [(n : Int)] ns ((n : Int) :: t) b = 0 → bS op q [(n : Int)] ns ((n : Int) :: t) b = (n : Int) :: t ∧ bA op q [(n : Int)] ns ((n : Int) :: t) b = (List.range n).flatMap (ibA op q ns t b m)) ∧
    (bE op q [(n : Int)] ns ((n : Int) :: t) b ≠ 0 → bS op q [(n : Int)] ns ((n : Int) :: t) b = [] ∧ bA op q [(n : Int)] ns ((n : Int) :: t) b = []) := by
  obtain ⟨N, m, e1, e2, e3⟩ := item_len h2
  have e0 : itE ((n : Int) :: t) b = n := by simp [itE, h2]
  rw [e0] at e1
  obtain rfl : n = N := by exact_mod_cast e1
  have e2' : pr t = m := e2
  have hit : ∀ i, i < n → amE t (itemA b i m) = 0 := fun i hi => amE_item h2 e2 e3 hi
  obtain ⟨g1, g2, g3, g4⟩ := agl_one (n : Int) t
  obtain ⟨k1, k2, k3, k4⟩ := agl_nil t
  have hn : n ≤ 4096 := by have := (itE_bd h2).2; rw [e0] at this; omega
  have h1 : amE [(n : Int)] ns = 0 := by
    have p1 : mayE [(n : Int)] = 0 := by
      unfold mayE; simp [pm]; omega
    unfold amE; rw [if_pos p1, if_pos (by rw [hns]; simp [pr])]
  have G := b_gen q h1 h2 hr g2 g4 g1 g3 (N := n * m) (by rw [pr_cons, e2']; push_cast; rfl)
  have I : ∀ i, i < n → ibE op q ns t b m i = firE ((List.range m).map fun j => sw q (dyE op) (ns.getD i 0) (b.getD (i * m + j) 0)) ∧ (ibE op q ns t b m i = 0 → ibA op q ns t b m i = (List.range m).map fun j => sw q (dyV op) (ns.getD i 0) (b.getD (i * m + j) 0)) := by
    intro i hi
    have GI := b_gen q (s := []) (a := [ns.getD i 0]) (t := t) (b := itemA b i m) rfl (hit i hi) hr k2 k4 k1 k3 e2'
    have hlen := itemA_length e3 hi
    have hj : ∀ j, j ∈ List.range m → [ns.getD i 0].getD (j / (m / [ns.getD i 0].length)) 0 = ns.getD i 0 ∧ (itemA b i m).getD (j / (m / (itemA b i m).length)) 0 = b.getD (i * m + j) 0 := by
      intro j hj
      have hj' := List.mem_range.1 hj
      rw [hlen, Nat.div_self (by omega), Nat.div_one, itemA_getD hj']
      simp [Nat.div_eq_of_lt hj']
    refine ⟨?_, fun h0 => ?_⟩
    · show bE _ _ _ _ _ _ = _
      rw [GI.1]
      congr 1
      exact List.map_congr_left fun j h => by rw [(hj j h).1, (hj j h).2]
    · show bA _ _ _ _ _ _ = _
      rw [(GI.2.1 h0).2]
      exact List.map_congr_left fun j h => by rw [(hj j h).1, (hj j h).2]
  have W : ∀ f : Int → Int → Int, ((List.range (n * m)).map fun i => f (ns.getD (i / (n * m / ns.length)) 0) (b.getD (i / (n * m / b.length)) 0)) = (List.range n).flatMap fun i => (List.range m).map fun j => f (ns.getD i 0) (b.getD (i * m + j) 0) := by
    intro f
    rw [range_mul]
    have hfl : ∀ (l : List Nat) (f g : Nat → List Int), (∀ i, i ∈ l → f i = g i) → l.flatMap f = l.flatMap g := by
      intro l f g h; induction l with
      | nil => rfl
      | cons x xs ih => rw [List.flatMap_cons, List.flatMap_cons, h x (List.mem_cons_self ..), ih fun i hi => h i (List.mem_cons_of_mem _ hi)]
    refine hfl _ _ _ fun i hi => List.map_congr_left fun j hj => ?_
    have hi' := List.mem_range.1 hi
    have hj' := List.mem_range.1 hj
    have hm : 0 < m := by omega
    have q1 : n * m / ns.length = m := by rw [hns, Nat.mul_div_cancel_left _ (by omega)]
    have q2 : n * m / b.length = 1 := by rw [← e3, Nat.div_self (Nat.mul_pos (by omega) hm)]
    rw [q1, q2, Nat.div_one]
    have q3 : (i * m + j) / m = i := by rw [Nat.mul_comm, Nat.mul_add_div hm, Nat.div_eq_of_lt hj']; simp
    rw [q3]
  refine ⟨m, e3, e2', hit, ?_, ?_, G.2.2⟩
  · rw [G.1, W (sw q (dyE op)), firE_flat]
    congr 1
    exact List.map_congr_left fun i hi => ((I i (List.mem_range.1 hi)).1).symm
  · intro h0
    refine ⟨(G.2.1 h0).1, ?_⟩
    rw [(G.2.1 h0).2, W (sw q (dyV op))]
    have hz : ∀ i, i < n → ibE op q ns t b m i = 0 := by
      intro i hi
      have h1 : firE ((List.range n).map (ibE op q ns t b m)) = 0 := by
        rw [← h0, G.1, W (sw q (dyE op)), firE_flat]
        congr 1
        exact List.map_congr_left fun i hi => (I i (List.mem_range.1 hi)).1
      rcases Classical.em (ibE op q ns t b m i = 0) with h | h
      · exact h
      · exfalso
        have : ∀ k, k ≤ n → firE ((List.range k).map (ibE op q ns t b m)) = 0 := by
          intro k hk
          rcases Classical.em (firE ((List.range k).map (ibE op q ns t b m)) = 0) with h3 | h3
          · exact h3
          · rw [← fst_stop _ hk h3] at h3; exact absurd h1 h3
        have h4 := this (i + 1) (by omega)
        rw [fst_step, if_pos (this i (by omega))] at h4
        exact h h4
    have hfl : ∀ (l : List Nat) (f g : Nat → List Int), (∀ i, i ∈ l → f i = g i) → l.flatMap f = l.flatMap g := by
      intro l f g h; induction l with
      | nil => rfl
      | cons x xs ih => rw [List.flatMap_cons, List.flatMap_cons, h x (List.mem_cons_self ..), ih fun i hi => h i (List.mem_cons_of_mem _ hi)]
    exact hfl _ _ _ fun i hi => ((I i (List.mem_range.1 hi)).2 (hz i (List.mem_range.1 hi))).symm
end Go.Proofs.Ytdedbfbkakofgaa

/- AtomEach: the walk of the statement's function. Plain facts for AtomLengths: agreement place by place, and what a dyad then tells. -/
import Derived.Test.YtdedbfbkakofgaaAtomFreshM23
import Derived.Test.YtdedbfbkakofgaaAtomFreshM3
import Derived.Deep.CutRange
import Derived.Deep.Cut
namespace Go.Proofs.Ytdedbfbkakofgaa
open Go.RowKit Go.Lib
set_option linter.unusedVariables false
set_option linter.unusedSimpArgs false
attribute [local go_sem] alloc_drewN setCell_drewN

/-- What the law gathers on its own, behind k rounds. -/
structure WantI (w0 wr : World) (b : Nat) (u : Value) (ao : Option Addr) (n c : Nat) (z : List Int) : Prop where
  box : BoxA wr b u (.slice ao n c)
  own : wr.ownsRow (b + 1) 2 1 (.slice ao n c) n (z.map (Value.int .i64))
  below : Below w0.heap.size w0 wr
  le : w0.heap.size ≤ b
theorem WantI.next {w0 wr wy : World} {b : Nat} {u : Value} {ao : Option Addr} {n c : Nat} {z : List Int} (h : WantI w0 wr b u ao n c z) (hb : Below wr.heap.size wr wy) : WantI w0 wy b u ao n c z :=
  ⟨h.box.via hb, own_below h.own hb (Nat.le_refl _), abvia h.below hb, h.le⟩
theorem WantI.new {w0 : World} (u : Value) (T : TypeId) : WantI w0 (w0.alloc (.cells #[u, .slice none 0 0] T)) w0.heap.size u none 0 0 [] :=
  ⟨BoxA.new _ _ _ _, World.ownsRow_nil _ _ _ _, abal _ _, Nat.le_refl _⟩
theorem WantI.grow {w0 wr wx wz : World} {b : Nat} {u : Value} {ao ao' : Option Addr} {n c n' c' : Nat} {z z' : List Int} (h : WantI w0 wr b u ao n c z) (hx : Below wr.heap.size wr wx) (hb : Below (b + 1) wx wz)
    (hO : wz.ownsRow (b + 1) 2 1 (.slice ao' n' c') n' (z'.map (Value.int .i64))) : WantI w0 (wz.setCell ⟨b, 1, none⟩ (.slice ao' n' c')) b u ao' n' c' z' := by
  have hx2 := (h.box.via hx).below hb (Nat.lt_succ_self b)
  obtain ⟨c0, c1, f0, f1, lt⟩ := hx2
  refine ⟨⟨?_, ?_, ?_, ?_, ?_⟩, ownsRow_setCell_below hO (by dsimp only; omega) _, ((abvia h.below hx).trans (hb.mono (by have := h.le; omega))).setCell h.le _, h.le⟩
  · simp [go_sem, *]
  · simp [go_sem, *]
  · simp [go_sem, *]
  · simp [go_sem, *]
  · simpa using lt
theorem WantI.arr {w0 wr : World} {b : Nat} {ua : Option Addr} {un uc : Nat} {ao : Option Addr} {n c : Nat} {s z : List Int} (h : WantI w0 wr b (.slice ua un uc) ao n c z) (hs : Ls wr ua un uc s) (hn : n ≤ 1000000) (hr : ∀ i, -9223372036854775808 ≤ z.getD i 0 ∧ z.getD i 0 ≤ 9223372036854775807) :
    Ar.Is ⟨ua, un, uc, ao, n, c, s, z⟩ wr := ⟨hs, ls_of_own h.own (by show n * 8 ≤ _; omega) hr⟩
theorem map_range_rng (f : Nat → Int) (k : Nat) (h : ∀ i, i < k → -9223372036854775808 ≤ f i ∧ f i ≤ 9223372036854775807) (i : Nat) : -9223372036854775808 ≤ ((List.range k).map f).getD i 0 ∧ ((List.range k).map f).getD i 0 ≤ 9223372036854775807 := by
  rcases Nat.lt_or_ge i k with hi | hi
  · rw [range_map_getD f hi]; exact h i hi
  · rw [List.getD_eq_getElem?_getD, List.getElem?_eq_none (by simpa using hi)]; simp
theorem range_map_snoc (f : Nat → Int) (k : Nat) : (List.range (k + 1)).map f = (List.range k).map f ++ [f k] := by rw [List.range_succ, List.map_append, List.map_singleton]
theorem ls_one (w : World) (T : TypeId) (z : Int) (hz : -9223372036854775808 ≤ z ∧ z ≤ 9223372036854775807) : Ls (w.alloc (.cells #[.int .i64 z] T)) (some ⟨w.heap.size, 0, none⟩) 1 1 [z] :=
  ls_alloc w [z] T (by simp) (rng_one hz)
theorem ag_self (s : List Int) : agL s s = s ∧ agE s s = 0 := by
  unfold agL agE
  rw [if_neg (Nat.lt_irrefl _), if_neg (Nat.lt_irrefl _), List.take_length, if_pos rfl, if_pos rfl]; exact ⟨rfl, rfl⟩
theorem dy_same {op : Int} {s a b : List Int} (h1 : amE s a = 0) (h2 : amE s b = 0) (hr : refV op 2 = 0) :
    adyE op s a s b = firE ((List.range b.length).map fun i => dyE op (a.getD i 0) (b.getD i 0)) ∧
    (adyE op s a s b = 0 → adyS op s a s b = s ∧ adyA op s a s b = (List.range b.length).map fun i => dyV op (a.getD i 0) (b.getD i 0)) := by
  have p1 := (am_pr h1).1
  have p2 := (am_pr h2).1
  obtain ⟨q1, q2⟩ := ag_self s
  have hn : adyN s s = b.length := by unfold adyN; rw [q1]; omega
  have ha : a.length = b.length := by omega
  have hi : ∀ i, i ∈ List.range b.length → i / (b.length / a.length) = i ∧ i / (b.length / b.length) = i := by
    intro i hi
    have hi' := List.mem_range.1 hi
    rw [ha, Nat.div_self (by omega), Nat.div_one]; exact ⟨rfl, rfl⟩
  constructor
  · unfold adyE
    rw [if_neg (by rw [h1, h2]; simp), if_neg (by rw [hr]; simp), if_neg (by rw [q2]; simp), hn]
    congr 1
    refine List.map_congr_left fun i h => ?_
    rw [dnE, (hi i h).1, (hi i h).2]
  · intro h
    refine ⟨by rw [adyS, if_pos h, q1], ?_⟩
    rw [adyA, if_pos h, hn]
    refine List.map_congr_left fun i h => ?_
    rw [dnV, (hi i h).1, (hi i h).2]

end Go.Proofs.Ytdedbfbkakofgaa

namespace Go.Proofs.Ytdedbfbkakofgaa
open Go.RowKit Go.Lib
set_option linter.unusedVariables false
set_option linter.unusedSimpArgs false
/-- Do the first k lengths agree? -/
def alB (s t : List Int) (k : Nat) : Bool := decide (s.take k = t.take k)
theorem alB_zero (s t : List Int) : alB s t 0 = true := by simp [alB]
theorem alB_succ {s t : List Int} {k : Nat} (h1 : k < s.length) (h2 : k < t.length) : alB s t (k + 1) = (alB s t k && decide (s.getD k 0 = t.getD k 0)) := by
  unfold alB
  rw [Bool.eq_iff_iff, Bool.and_eq_true, decide_eq_true_eq, decide_eq_true_eq, decide_eq_true_eq, take_snoc h1, take_snoc h2]
  constructor
  · intro h
    have := List.append_inj h (by simp; omega)
    exact ⟨this.1, by simpa using this.2⟩
  · rintro ⟨a, b⟩; rw [a, b]
theorem alB_end {s t : List Int} {k : Nat} (h1 : k ≤ s.length) (h2 : k ≤ t.length) (h3 : k = s.length ∨ k = t.length) : alB s t k = decide (agE s t = 0) := by
  unfold alB agE
  rw [Bool.eq_iff_iff, decide_eq_true_eq, decide_eq_true_eq]
  by_cases h : s.length < t.length
  · obtain rfl : k = s.length := by omega
    rw [if_pos h, List.take_length]
    constructor
    · intro e; rw [if_pos e.symm]
    · intro e
      by_cases q : t.take s.length = s
      · exact q.symm
      · rw [if_neg q] at e; omega
  · obtain rfl : k = t.length := by omega
    rw [if_neg h, List.take_length]
    constructor
    · intro e; rw [if_pos e]
    · intro e
      by_cases q : s.take t.length = t
      · exact q
      · rw [if_neg q] at e; omega
theorem ag_long {s t : List Int} (h : agE s t = 0) : agL s t = if s.length < t.length then t else s := by
  unfold agE at h; unfold agL
  by_cases h1 : s.length < t.length
  · rw [if_pos h1] at h ⊢; rw [if_pos h1]
    by_cases h2 : t.take s.length = s
    · rw [if_pos h2]
    · rw [if_neg h2] at h; omega
  · rw [if_neg h1] at h ⊢; rw [if_neg h1]
    by_cases h2 : s.take t.length = t
    · rw [if_pos h2]
    · rw [if_neg h2] at h; omega
theorem firE_not {l : List Int} {x : Int} (hx : x ≠ 0) (h : ∀ e, e ∈ l → e ≠ x) : firE l ≠ x := by
  induction l with
  | nil => exact fun e => hx e.symm
  | cons a l ih =>
    by_cases ha : a = 0
    · rw [firE_yes _ ha]; exact ih fun e he => h e (List.mem_cons_of_mem _ he)
    · rw [firE_no _ ha]; exact h a (List.mem_cons_self ..)
theorem ady_bad {op : Int} {s a t b : List Int} (h1 : amE s a = 0) (h2 : amE t b = 0) (hr : refV op 2 = 0) (h : agE s t ≠ 0) : adyE op s a t b = 11 ∧ adyS op s a t b = [] ∧ adyA op s a t b = [] := by
  have e : adyE op s a t b = 11 := by
    unfold adyE
    rw [if_neg (by rw [h1, h2]; simp), if_neg (by rw [hr]; simp), if_pos h, (ag_bad h).2]
  exact ⟨e, by rw [adyS, e]; rfl, by rw [adyA, e]; rfl⟩
theorem ady_ok {op : Int} {s a t b : List Int} (h1 : amE s a = 0) (h2 : amE t b = 0) (hr : refV op 2 = 0) (h : agE s t = 0) :
    adyE op s a t b ≠ 11 ∧ (a.length = 0 ∨ b.length = 0 → adyE op s a t b = 0 ∧ adyS op s a t b = (if s.length < t.length then t else s) ∧ adyA op s a t b = []) ∧
    (adyE op s a t b = 0 → adyS op s a t b = (if s.length < t.length then t else s) ∧ amE (adyS op s a t b) (adyA op s a t b) = 0) := by
  have e : adyE op s a t b = firE ((List.range (adyN s t)).map (dnE op a b (adyN s t))) := by
    unfold adyE
    rw [if_neg (by rw [h1, h2]; simp), if_neg (by rw [hr]; simp), if_neg (by rw [h]; simp)]
  obtain ⟨p1, p2, p3, p4⟩ := dy_place h1 h2 h
  refine ⟨?_, ?_, ?_⟩
  · rw [e]
    refine firE_not (by omega) fun x hx => ?_
    obtain ⟨i, -, rfl⟩ := List.mem_map.1 hx
    exact dyE_len _ _ _
  · intro h0
    have hn : adyN s t = 0 := by
      rcases Nat.eq_zero_or_pos (adyN s t) with q | q
      · exact q
      · obtain ⟨m1, m2, ⟨q1, -⟩, ⟨q2, -⟩⟩ := p4 0 q; omega
    have e0 : adyE op s a t b = 0 := by rw [e, hn]; rfl
    exact ⟨e0, by rw [adyS, if_pos e0, ag_long h], by rw [adyA, if_pos e0, hn]; rfl⟩
  · intro e0
    refine ⟨by rw [adyS, if_pos e0, ag_long h], ?_⟩
    rw [adyS, if_pos e0, adyA, if_pos e0, amE, if_pos p2, if_pos (by rw [p1]; simp)]
end Go.Proofs.Ytdedbfbkakofgaa

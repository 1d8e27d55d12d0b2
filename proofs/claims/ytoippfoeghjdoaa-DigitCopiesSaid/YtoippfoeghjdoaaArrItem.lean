/- Contract of arr.Item. -/
import Derived.Test.YtoippfoeghjdoaaClone
import Derived.Deep.RegionHeld3
import Derived.IntWalk
namespace Go.Proofs.Ytoippfoeghjdoaa
open Go.RowKit Go.Lib
set_option linter.unusedVariables false
set_option linter.unusedSimpArgs false
attribute [local go_sem] alloc_drewN setCell_drewN

/-- An array that a call made: both rows are its own, from base on, in blocks of their own. -/
structure Ar.Own (B : Ar) (w : World) (base : Nat) : Prop where
  shp : w.ownsRow base 3 1 (.slice B.sa B.sn B.sc) B.sn (B.s.map (Value.int .i64))
  ats : w.ownsRow base 2 1 (.slice B.aa B.an B.ac) B.an (B.a.map (Value.int .i64))
  two : ∀ g, (Value.slice B.sa B.sn B.sc).ownBlock = some g → (Value.slice B.aa B.an B.ac).ownBlock ≠ some g
theorem Ar.is_nil (w : World) : Ar.Is ⟨none, 0, 0, none, 0, 0, [], []⟩ w :=
  ⟨⟨rfl, Nat.le_refl _, by simp, Nat.zero_le _, fun h => absurd h (by simp), fun i => by simp [List.getD]⟩, ⟨rfl, Nat.le_refl _, by simp, Nat.zero_le _, fun h => absurd h (by simp), fun i => by simp [List.getD]⟩⟩
theorem Ar.own_nil (w : World) (b : Nat) : Ar.Own ⟨none, 0, 0, none, 0, 0, [], []⟩ w b :=
  ⟨World.ownsRow_nil _ _ _ _, World.ownsRow_nil _ _ _ _, fun g h => by simp [Value.ownBlock] at h⟩
/-- The call hands back an array of its own with these lengths and atoms, and an error number. -/
def MadeE (w : World) (s a : List Int) (err : Int) (e : Ending) (w' : World) : Prop :=
  ∃ B : Ar, e = .returned (.tuple #[B.v, .int .i64 err]) ∧ B.Is w' ∧ B.s = s ∧ B.a = a ∧ B.Own w' w.heap.size ∧ Below w.heap.size w w'
/-- A block of two cells that may be written. -/
structure BoxA (W : World) (b : Nat) (u v : Value) : Prop where
  c0 : W.cell? ⟨b, 0, none⟩ = some u
  c1 : W.cell? ⟨b, 1, none⟩ = some v
  f0 : W.frozen? ⟨b, 0, none⟩ = false
  f1 : W.frozen? ⟨b, 1, none⟩ = false
  lt : b < W.heap.size
theorem BoxA.below {W W' : World} {b : Nat} {u v : Value} (h : BoxA W b u v) {B : Nat} (hb : Below B W W') (hB : b < B) : BoxA W' b u v :=
  ⟨(hb.cell hB).trans h.c0, (hb.cell hB).trans h.c1, (hb.frozen hB).trans h.f0, (hb.frozen hB).trans h.f1, Nat.lt_of_lt_of_le h.lt hb.size⟩
theorem below_box2 (w : World) (A : Array Value) (t : TypeId) (B : Array Value) (u : TypeId) : Below w.heap.size w ((w.alloc (.cells A t)).alloc (.cells B u)) := below_two w A B t u 0
theorem amE_zero {s a : List Int} (h : amE s a = 0) : mayE s = 0 ∧ pr s = a.length := by
  unfold amE at h
  split at h
  · rename_i h1
    split at h
    · exact ⟨h1, by assumption⟩
    · omega
  · omega
theorem itE_bd {s a : List Int} (h : amE s a = 0) : 0 ≤ itE s a ∧ itE s a ≤ 4096 := by
  obtain ⟨h1, h2⟩ := amE_zero h
  obtain ⟨g1, g2, g3⟩ := mayE_zero h1
  unfold itE
  rw [if_pos h]
  split
  · omega
  · have q1 := g1 0
    have q2 := (pm_up s 0).2.2
    have q3 := pm_all s (0 + 1)
    omega
/-- A part of a slice. -/
theorem Ls.part {w : World} {b off n c : Nat} {zs : List Int} (h : Ls w (some ⟨b, off, none⟩) n c zs) (l k : Nat) (hk : l + k ≤ n) :
    Ls w (some ⟨b, off + l, none⟩) k (c - l) ((zs.drop l).take k) := by
  have h1 := h.len; have h2 := h.cap; have h3 := h.big; have h4 := h.top
  have hg : ∀ i, i < k → ((zs.drop l).take k).getD i 0 = zs.getD (l + i) 0 := fun i hi => by
    simp only [List.getD, List.getElem?_take, List.getElem?_drop, if_pos hi]
  refine ⟨by simp; omega, by omega, by omega, by omega, fun h0 => ?_, fun i => ?_⟩
  · obtain ⟨b', off', e, hlt, hc⟩ := h.mem (by omega)
    cases e
    exact ⟨b, off + l, rfl, hlt, fun i hi => by rw [hg i hi, Nat.add_assoc]; exact hc (l + i) (by omega)⟩
  · by_cases hi : i < k
    · rw [hg i hi]; exact h.rng _
    · rw [show ((zs.drop l).take k).getD i 0 = 0 by simp [List.getD, List.getElem?_take, hi]]; omega
theorem Ls.form {w : World} {ao : Option Addr} {n c : Nat} {zs : List Int} (h : Ls w ao n c zs) (h0 : 0 < n) : ∃ b off, ao = some ⟨b, off, none⟩ := by
  obtain ⟨b, off, e, _⟩ := h.mem h0; exact ⟨b, off, e⟩
theorem Ls.zero (w : World) (ao : Option Addr) {c : Nat} (h : c ≤ maxLen) : Ls w ao 0 c [] :=
  ⟨rfl, Nat.zero_le _, by simp, h, fun h => absurd h (by simp), fun i => by simp [List.getD]⟩
theorem Ls.cut {w : World} {ao : Option Addr} {n c : Nat} {zs : List Int} (h : Ls w ao n c zs) (l k : Nat) (hk : l + k ≤ n) :
    Ls w (ao.map fun x => { block := x.block, off := x.off + l }) k (c - l) ((zs.drop l).take k) := by
  by_cases h0 : 0 < n
  · obtain ⟨b, off, rfl⟩ := h.form h0
    exact h.part l k hk
  · have h1 := h.len; have h4 := h.top
    obtain rfl : k = 0 := by omega
    rw [List.take_zero]
    exact Ls.zero _ _ (by omega)
theorem Ls.cutA {w : World} {ao : Option Addr} {n c : Nat} {zs : List Int} (h : Ls w ao n c zs) (l k : Nat) (hk : l + k ≤ n) :
    Ls w (ao.map fun x => x.add l) k (c - l) ((zs.drop l).take k) := by
  by_cases h0 : 0 < n
  · obtain ⟨b, off, rfl⟩ := h.form h0
    show Ls w (some (Addr.add ⟨b, off, none⟩ l)) _ _ _
    rw [Addr.add_lit]
    exact h.part l k hk
  · have h1 := h.len; have h4 := h.top
    obtain rfl : k = 0 := by omega
    rw [List.take_zero]
    exact Ls.zero _ _ (by omega)
/-- Items have equal parts of the atoms. -/
theorem pr_cons (x : Int) (xs : List Int) : pr (x :: xs) = x * pr xs := by
  have : ∀ (xs : List Int) (a b : Int), xs.foldl (fun n k => n * k) (a * b) = a * xs.foldl (fun n k => n * k) b := by
    intro xs; induction xs with
    | nil => intro a b; rfl
    | cons y ys ih => intro a b; simp only [List.foldl_cons]; rw [Int.mul_assoc, ih]
  have h := this xs x 1
  simpa [pr] using h
theorem item_part {s a : List Int} (h : amE s a = 0) (hn : 1 ≤ itE s a) : ∃ m : Nat, (a.length : Int) = itE s a * m ∧ (m : Int) = pr s.tail ∧ (a.length : Int) / itE s a = m := by
  obtain ⟨h1, h2⟩ := amE_zero h
  obtain ⟨g1, g2, g3⟩ := mayE_zero h1
  cases s with
  | nil => 
    have e : itE [] a = 1 := by simp [itE, h]
    have e2 : pr [] = 1 := rfl
    rw [e] at hn ⊢
    refine ⟨a.length, by omega, by rw [← h2]; rfl, by simp⟩
  | cons x xs =>
    have e : itE (x :: xs) a = x := by simp [itE, h]
    rw [e] at hn ⊢
    rw [pr_cons] at h2
    have hxs : ∀ i, 0 ≤ xs.getD i 0 := fun i => by have := g1 (i + 1); simpa [List.getD] using this
    have hp := (pr_le xs hxs xs.length).1
    rw [List.take_length] at hp
    refine ⟨(pr xs).toNat, by rw [Int.toNat_of_nonneg hp]; exact h2.symm, by simp [Int.toNat_of_nonneg hp], ?_⟩
    rw [Int.toNat_of_nonneg hp, ← h2]
    exact Int.mul_ediv_cancel_left _ (by omega)
theorem ls_of_own {w : World} {base : Nat} {E : TypeId} {ao : Option Addr} {n c : Nat} {zs : List Int} (h : w.ownsRow base E 1 (.slice ao n c) n (zs.map (Value.int .i64))) (hb : n * 8 ≤ 140737488351232)
    (hr : ∀ i, -9223372036854775808 ≤ zs.getD i 0 ∧ zs.getD i 0 ≤ 9223372036854775807) : Ls w ao n c zs := by
  obtain ⟨ao', c', e, h⟩ := ls_own h hb hr
  cases e; exact h
theorem own_block {w : World} {base : Nat} {E : TypeId} {v : Value} {n : Nat} {xs : List Value} (h : w.ownsRow base E 1 v n xs) {g : Nat} (hg : v.ownBlock = some g) : base ≤ g ∧ g < w.heap.size := by
  rcases h.2 with ⟨rfl, _⟩ | ⟨g', cap, cur, rfl, hbg, hg', _⟩
  · simp [Value.ownBlock] at hg
  · simp [Value.ownBlock] at hg
    subst hg
    exact ⟨hbg, (Array.getElem?_eq_some_iff.1 hg').1⟩
theorem own_below {w w' : World} {base B : Nat} {E : TypeId} {v : Value} {n : Nat} {xs : List Value} (h : w.ownsRow base E 1 v n xs) (hb : Below B w w') (hB : w.heap.size ≤ B) : w'.ownsRow base E 1 v n xs := by
  refine ⟨h.1, ?_⟩
  rcases h.2 with h1 | ⟨g, cap, cur, rfl, hbg, hg, h2⟩
  · exact .inl h1
  · refine .inr ⟨g, cap, cur, rfl, hbg, ?_, h2⟩
    rw [hb.block g (by have := (Array.getElem?_eq_some_iff.1 hg).1; omega)]; exact hg
theorem own_mono {w : World} {base base' : Nat} {E : TypeId} {v : Value} {n : Nat} {xs : List Value} (h : w.ownsRow base E 1 v n xs) (hb : base' ≤ base) : w.ownsRow base' E 1 v n xs := by
  refine ⟨h.1, ?_⟩
  rcases h.2 with h1 | ⟨g, cap, cur, rfl, hbg, h2⟩
  · exact .inl h1
  · exact .inr ⟨g, cap, cur, rfl, by omega, h2⟩
theorem made_end {s' a' : List Int} {w w' w2 w3 : World} {ao1 ao2 : Option Addr} {n1 c1 n2 c2 b : Nat} {s a : List Int} (hW : Below w.heap.size w w') (hsz : w.heap.size + 2 ≤ w'.heap.size) (hB1 : Below w'.heap.size w' w2)
    (hO1 : w2.ownsRow w'.heap.size 3 1 (.slice ao1 n1 c1) n1 (s.map (Value.int .i64))) (hB2 : Below w2.heap.size w2 w3)
    (hO2 : w3.ownsRow w2.heap.size 2 1 (.slice ao2 n2 c2) n2 (a.map (Value.int .i64))) (L1 : Ls w2 ao1 n1 c1 s) (L2 : Ls w3 ao2 n2 c2 a) (err : Int) (u v : Value) (hb : b = w.heap.size + 1) (es : s' = s) (ea : a' = a) :
    MadeE w s' a' err (.returned (.tuple #[.agg #[.slice ao1 n1 c1, .slice ao2 n2 c2], .int .i64 err])) ((w3.setCell ⟨b, 0, none⟩ u).setCell ⟨b, 1, none⟩ v) := by
  rw [es, ea]
  have hs1 := hB1.size
  have O1 : ((w3.setCell ⟨b, 0, none⟩ u).setCell ⟨b, 1, none⟩ v).ownsRow w'.heap.size 3 1 (.slice ao1 n1 c1) n1 (s.map (Value.int .i64)) :=
    ownsRow_setCell_below (ownsRow_setCell_below (own_below hO1 hB2 (Nat.le_refl _)) (by show b < _; omega) _) (by show b < _; omega) _
  have O2 : ((w3.setCell ⟨b, 0, none⟩ u).setCell ⟨b, 1, none⟩ v).ownsRow w2.heap.size 2 1 (.slice ao2 n2 c2) n2 (a.map (Value.int .i64)) :=
    ownsRow_setCell_below (ownsRow_setCell_below hO2 (by show b < _; omega) _) (by show b < _; omega) _
  refine ⟨⟨ao1, n1, c1, ao2, n2, c2, s, a⟩, rfl, ⟨ls_of_own O1 L1.big L1.rng, ls_of_own O2 L2.big L2.rng⟩, rfl, rfl, ⟨own_mono O1 (by omega), own_mono O2 (by omega), ?_⟩, ?_⟩
  · intro g h1 h2
    have q1 := own_block hO1 h1
    have q2 := own_block hO2 h2
    omega
  · exact (((hW.trans (hB1.mono (by omega))).trans (hB2.mono (by omega))).setCell (by show _ ≤ b; omega) _).setCell (by show _ ≤ b; omega) _
def itemA (a : List Int) (j m : Nat) : List Int := (a.drop (j * m)).take m
end Go.Proofs.Ytoippfoeghjdoaa

/- Contracts of slices.Clone at []int and []int64; a row that a call owns, read as a list. Contract of arr.Item. Contracts of arr.Item (all cases), arr.Scalar, arr.List. Contract of arr.Fill. Small laws on worlds that lie below one another. append of a slice that reads as a list, to a row that the call owns. Worlds that differ in some blocks alone; rows of the call's own that are shortened, lengthened to their capacity, and written over. -/
import Derived.Test.YthackmkdicpdeaaArrMay
import Derived.Test.YthackmkdicpdeaaShelf
import Derived.Lib.Walk
import Derived.Lib.SliceRun
import Derived.Laws.OwnMore
import Derived.Deep.RegionHeld3
import Derived.IntWalk
import Derived.Deep.CutRange
import Derived.Deep.Cut
namespace Go.Proofs.Ythackmkdicpdeaa
open Go.RowKit Go.Lib
set_option linter.unusedVariables false
set_option linter.unusedSimpArgs false
attribute [local go_sem] alloc_drewN setCell_drewN

theorem getD_map_int (zs : List Int) (i : Nat) (h : i < zs.length) : (zs.map (Value.int .i64))[i]? = some (.int .i64 (zs.getD i 0)) := by
  simp [List.getD, List.getElem?_eq_getElem h]
/-- The rows that a call owns read as lists. -/
theorem ls_own {w : World} {base : Nat} {E : TypeId} {v : Value} {n : Nat} {zs : List Int} (h : w.ownsRow base E 1 v n (zs.map (Value.int .i64))) (hb : n * 8 ≤ 140737488351232)
    (hr : ∀ i, -9223372036854775808 ≤ zs.getD i 0 ∧ zs.getD i 0 ≤ 9223372036854775807) : ∃ ao c, v = .slice ao n c ∧ Ls w ao n c zs := by
  have hl : zs.length = n := by have := h.1; simpa using this
  rcases h.2 with ⟨rfl, rfl⟩ | ⟨g, cap, cur, rfl, hbg, hg, hnc, hcm, hcs, htk⟩
  · exact ⟨none, 0, rfl, hl, Nat.le_refl _, hb, Nat.zero_le _, fun h => absurd h (by omega), hr⟩
  · refine ⟨_, cap, rfl, hl, hnc, hb, hcm, fun h0 => ⟨g, 0, rfl, ?_, fun i hi => ?_⟩, hr⟩
    · exact (Array.getElem?_eq_some_iff.1 hg).1
    · rw [Nat.zero_add]
      exact (h.cellAt i (by omega)).trans (getD_map_int zs i (by omega))
/-- The call hands back a copy: a row of its own that reads as zs. -/
def Cloned (w : World) (E : TypeId) (ao : Option Addr) (n : Nat) (zs : List Int) (e : Ending) (w' : World) : Prop :=
  ∃ ao' c', e = .returned (.slice ao' n c') ∧ Ls w' ao' n c' zs ∧ w'.ownsRow w.heap.size E 1 (.slice ao' n c') n (zs.map (Value.int .i64)) ∧ Below w.heap.size w w'
theorem cloned_of {w : World} {E : TypeId} {ao : Option Addr} {n : Nat} {zs : List Int} {e : Ending} {w' : World} {v' : Value} (he : e = .returned v') (hb : n * 8 ≤ 140737488351232)
    (hr : ∀ i, -9223372036854775808 ≤ zs.getD i 0 ∧ zs.getD i 0 ≤ 9223372036854775807) (h : w'.ownsRow w.heap.size E 1 v' n (zs.map (Value.int .i64))) (hB : Below w.heap.size w w') : Cloned w E ao n zs e w' := by
  obtain ⟨ao', c', rfl, hL⟩ := ls_own h hb hr
  exact ⟨ao', c', he, hL, h, hB⟩
set_option maxHeartbeats 2000000 in
set_option maxRecDepth 100000 in
theorem clone0_any (a : Addr) (c : Nat) (w : World) :
    Calls Try.prog 63 #[.slice (some a) 0 c] w fun e w' => ∃ v', e = .returned v' ∧ w'.ownsRow w.heap.size 3 1 v' 0 [] ∧ Below w.heap.size w w' := by
  obtain ⟨i0, hi, hz0, hz1, hz2⟩ := info_parts (P := Try.prog) (e := 3) (z := .int .i64 0) (size := 1) (bytes := 8) (by kernel_rfl)
  have q22 : ∀ (w : World) (a : Option Addr) (n c n' c' : Nat), (binOp .eql 25 (.slice a n c) (.slice none n' c')).run Try.prog w = .ok (.bool a.isNone) w := fun w a n c n' c' => Lib.run_eql_slice_nil w _ _ a n c n' c' Try.underlying25
  go_enter Try.func63, Try.ntmps63
  go_wp2_with (at_builtin; refine wpList_append_own _ rfl _ _ 25 rfl w.heap.size 3 i0 (.int .i64 0) 1 8 Try.underlying25 hi hz0 hz1 hz2 rfl (by decide) _ _ _ rfl (World.ownsRow_made w #[] 0 (Nat.le_refl _) (Nat.zero_le _) rfl) a 0 c [] rfl rfl (by intro j u hj; simp at hj) (by intro u hu; cases hu) (by unfold maxLen; omega) (by omega) (by simp) ?_)
  intro v' w1 hown hgrow hnil
  go_wp2
  go_ret
  refine ⟨v', rfl, by simpa using hown, ?_⟩
  exact ((Below.refl _ w).alloc (Nat.le_refl _) _).grown hgrow (by simp) (by intro k hk; simp [Value.ownBlock] at hk; omega)
theorem clone_any {w : World} {ao : Option Addr} {n c : Nat} {zs : List Int} (h : Ls w ao n c zs) :
    Calls Try.prog 63 #[.slice ao n c] w (Cloned w 3 ao n zs) := by
  by_cases h0 : n = 0
  · subst h0
    have hz : zs = [] := List.eq_nil_of_length_eq_zero h.len
    subst hz
    cases ao with
    | none =>
      refine (Try.slices_Clone_nil_f63 0 c w).mono ?_
      rintro e w' ⟨he, rfl⟩
      exact cloned_of he (by omega) h.rng (World.ownsRow_nil _ _ _ _) (Below.refl _ _)
    | some a =>
      refine (clone0_any a c w).mono ?_
      rintro e w' ⟨v', he, ho, hB⟩
      exact cloned_of he (by omega) h.rng ho hB
  · obtain ⟨b, off, rfl, hc⟩ := h.at (by omega)
    obtain ⟨i0, hi, hz0, hz1, hz2⟩ := info_parts (P := Try.prog) (e := 3) (z := .int .i64 0) (size := 1) (bytes := 8) (by kernel_rfl)
    have hb := h.big
    refine (Try.slices_Clone_f63 i0 (.int .i64 0) 1 8 hi hz0 hz1 hz2 rfl (by decide) (Try.sizeOf3) b off n c (zs.map (Value.int .i64)) w (by simp [h.len]) (by unfold maxLen; omega) (by omega) ?_ ?_).mono ?_
    · intro j u hj
      have hj' : j < zs.length := by
        rcases Nat.lt_or_ge j zs.length with h1 | h1
        · exact h1
        · rw [List.getElem?_eq_none (by simpa using h1)] at hj; cases hj
      rw [getD_map_int zs j hj'] at hj
      cases hj
      exact hc j (by have := h.len; omega)
    · intro u hu
      obtain ⟨x, _, rfl⟩ := List.mem_map.1 hu
      rfl
    · rintro e w' ⟨v', he, ho, _, hB⟩
      exact cloned_of he hb h.rng ho hB
set_option maxHeartbeats 2000000 in
set_option maxRecDepth 100000 in
theorem clone06_any (a : Addr) (c : Nat) (w : World) :
    Calls Try.prog 64 #[.slice (some a) 0 c] w fun e w' => ∃ v', e = .returned v' ∧ w'.ownsRow w.heap.size 2 1 v' 0 [] ∧ Below w.heap.size w w' := by
  obtain ⟨i0, hi, hz0, hz1, hz2⟩ := info_parts (P := Try.prog) (e := 2) (z := .int .i64 0) (size := 1) (bytes := 8) (by kernel_rfl)
  have q22 : ∀ (w : World) (a : Option Addr) (n c n' c' : Nat), (binOp .eql 28 (.slice a n c) (.slice none n' c')).run Try.prog w = .ok (.bool a.isNone) w := fun w a n c n' c' => Lib.run_eql_slice_nil w _ _ a n c n' c' Try.underlying28
  go_enter Try.func64, Try.ntmps64
  go_wp2_with (at_builtin; refine wpList_append_own _ rfl _ _ 28 rfl w.heap.size 2 i0 (.int .i64 0) 1 8 Try.underlying28 hi hz0 hz1 hz2 rfl (by decide) _ _ _ rfl (World.ownsRow_made w #[] 0 (Nat.le_refl _) (Nat.zero_le _) rfl) a 0 c [] rfl rfl (by intro j u hj; simp at hj) (by intro u hu; cases hu) (by unfold maxLen; omega) (by omega) (by simp) ?_)
  intro v' w1 hown hgrow hnil
  go_wp2
  go_ret
  refine ⟨v', rfl, by simpa using hown, ?_⟩
  exact ((Below.refl _ w).alloc (Nat.le_refl _) _).grown hgrow (by simp) (by intro k hk; simp [Value.ownBlock] at hk; omega)
theorem clone6_any {w : World} {ao : Option Addr} {n c : Nat} {zs : List Int} (h : Ls w ao n c zs) :
    Calls Try.prog 64 #[.slice ao n c] w (Cloned w 2 ao n zs) := by
  by_cases h0 : n = 0
  · subst h0
    have hz : zs = [] := List.eq_nil_of_length_eq_zero h.len
    subst hz
    cases ao with
    | none =>
      refine (Try.slices_Clone_nil_f64 0 c w).mono ?_
      rintro e w' ⟨he, rfl⟩
      exact cloned_of he (by omega) h.rng (World.ownsRow_nil _ _ _ _) (Below.refl _ _)
    | some a =>
      refine (clone06_any a c w).mono ?_
      rintro e w' ⟨v', he, ho, hB⟩
      exact cloned_of he (by omega) h.rng ho hB
  · obtain ⟨b, off, rfl, hc⟩ := h.at (by omega)
    obtain ⟨i0, hi, hz0, hz1, hz2⟩ := info_parts (P := Try.prog) (e := 2) (z := .int .i64 0) (size := 1) (bytes := 8) (by kernel_rfl)
    have hb := h.big
    refine (Try.slices_Clone_f64 i0 (.int .i64 0) 1 8 hi hz0 hz1 hz2 rfl (by decide) (Try.sizeOf2) b off n c (zs.map (Value.int .i64)) w (by simp [h.len]) (by unfold maxLen; omega) (by omega) ?_ ?_).mono ?_
    · intro j u hj
      have hj' : j < zs.length := by
        rcases Nat.lt_or_ge j zs.length with h1 | h1
        · exact h1
        · rw [List.getElem?_eq_none (by simpa using h1)] at hj; cases hj
      rw [getD_map_int zs j hj'] at hj
      cases hj
      exact hc j (by have := h.len; omega)
    · intro u hu
      obtain ⟨x, _, rfl⟩ := List.mem_map.1 hu
      rfl
    · rintro e w' ⟨v', he, ho, _, hB⟩
      exact cloned_of he hb h.rng ho hB
end Go.Proofs.Ythackmkdicpdeaa
namespace Go.Proofs.Ythackmkdicpdeaa
open Go.RowKit Go.Lib
set_option linter.unusedVariables false
set_option linter.unusedSimpArgs false
attribute [local go_sem] alloc_drewN setCell_drewN

/-- An array that a call made: both rows are its own, from base on, in blocks of their own. -/
structure Ar.Own (B : Ar) (w : World) (base : Nat) : Prop where
  shp : w.ownsRow base 3 1 (.slice B.sa B.sn B.sc) B.sn (B.s.map (Value.int .i64))
  ats : w.ownsRow base 2 1 (.slice B.aa B.an B.ac) B.an (B.a.map (Value.int .i64))
  two : ∀ g, (Value.slice B.sa B.sn B.sc).ownBlock = some g → (Value.slice B.aa B.an B.ac).ownBlock ≠ some g
theorem Ar.is_nil (w : World) : Ar.Is ⟨none, 0, 0, none, 0, 0, [], []⟩ w :=
  ⟨⟨rfl, Nat.le_refl _, by simp, Nat.zero_le _, fun h => absurd h (by simp), fun i => by simp [List.getD]⟩, ⟨rfl, Nat.le_refl _, by simp, Nat.zero_le _, fun h => absurd h (by simp), fun i => by simp [List.getD]⟩⟩
theorem Ar.own_nil (w : World) (b : Nat) : Ar.Own ⟨none, 0, 0, none, 0, 0, [], []⟩ w b :=
  ⟨World.ownsRow_nil _ _ _ _, World.ownsRow_nil _ _ _ _, fun g h => by simp [Value.ownBlock] at h⟩
/-- The call hands back an array of its own with these lengths and atoms, and an error number. -/
def MadeE (w : World) (s a : List Int) (err : Int) (e : Ending) (w' : World) : Prop :=
  ∃ B : Ar, e = .returned (.tuple #[B.v, .int .i64 err]) ∧ B.Is w' ∧ B.s = s ∧ B.a = a ∧ B.Own w' w.heap.size ∧ Below w.heap.size w w'
/-- A block of two cells that may be written. -/
structure BoxA (W : World) (b : Nat) (u v : Value) : Prop where
  c0 : W.cell? ⟨b, 0, none⟩ = some u
  c1 : W.cell? ⟨b, 1, none⟩ = some v
  f0 : W.frozen? ⟨b, 0, none⟩ = false
  f1 : W.frozen? ⟨b, 1, none⟩ = false
  lt : b < W.heap.size
theorem BoxA.below {W W' : World} {b : Nat} {u v : Value} (h : BoxA W b u v) {B : Nat} (hb : Below B W W') (hB : b < B) : BoxA W' b u v :=
  ⟨(hb.cell hB).trans h.c0, (hb.cell hB).trans h.c1, (hb.frozen hB).trans h.f0, (hb.frozen hB).trans h.f1, Nat.lt_of_lt_of_le h.lt hb.size⟩
theorem below_box2 (w : World) (A : Array Value) (t : TypeId) (B : Array Value) (u : TypeId) : Below w.heap.size w ((w.alloc (.cells A t)).alloc (.cells B u)) := below_two w A B t u 0
theorem amE_zero {s a : List Int} (h : amE s a = 0) : mayE s = 0 ∧ pr s = a.length := by
  unfold amE at h
  split at h
  · rename_i h1
    split at h
    · exact ⟨h1, by assumption⟩
    · omega
  · omega
theorem itE_bd {s a : List Int} (h : amE s a = 0) : 0 ≤ itE s a ∧ itE s a ≤ 4096 := by
  obtain ⟨h1, h2⟩ := amE_zero h
  obtain ⟨g1, g2, g3⟩ := mayE_zero h1
  unfold itE
  rw [if_pos h]
  split
  · omega
  · have q1 := g1 0
    have q2 := (pm_up s 0).2.2
    have q3 := pm_all s (0 + 1)
    omega
/-- A part of a slice. -/
theorem Ls.part {w : World} {b off n c : Nat} {zs : List Int} (h : Ls w (some ⟨b, off, none⟩) n c zs) (l k : Nat) (hk : l + k ≤ n) :
    Ls w (some ⟨b, off + l, none⟩) k (c - l) ((zs.drop l).take k) := by
  have h1 := h.len; have h2 := h.cap; have h3 := h.big; have h4 := h.top
  have hg : ∀ i, i < k → ((zs.drop l).take k).getD i 0 = zs.getD (l + i) 0 := fun i hi => by
    simp only [List.getD, List.getElem?_take, List.getElem?_drop, if_pos hi]
  refine ⟨by simp; omega, by omega, by omega, by omega, fun h0 => ?_, fun i => ?_⟩
  · obtain ⟨b', off', e, hlt, hc⟩ := h.mem (by omega)
    cases e
    exact ⟨b, off + l, rfl, hlt, fun i hi => by rw [hg i hi, Nat.add_assoc]; exact hc (l + i) (by omega)⟩
  · by_cases hi : i < k
    · rw [hg i hi]; exact h.rng _
    · rw [show ((zs.drop l).take k).getD i 0 = 0 by simp [List.getD, List.getElem?_take, hi]]; omega
theorem Ls.form {w : World} {ao : Option Addr} {n c : Nat} {zs : List Int} (h : Ls w ao n c zs) (h0 : 0 < n) : ∃ b off, ao = some ⟨b, off, none⟩ := by
  obtain ⟨b, off, e, _⟩ := h.mem h0; exact ⟨b, off, e⟩
theorem Ls.zero (w : World) (ao : Option Addr) {c : Nat} (h : c ≤ maxLen) : Ls w ao 0 c [] :=
  ⟨rfl, Nat.zero_le _, by simp, h, fun h => absurd h (by simp), fun i => by simp [List.getD]⟩
theorem Ls.cut {w : World} {ao : Option Addr} {n c : Nat} {zs : List Int} (h : Ls w ao n c zs) (l k : Nat) (hk : l + k ≤ n) :
    Ls w (ao.map fun x => { block := x.block, off := x.off + l }) k (c - l) ((zs.drop l).take k) := by
  by_cases h0 : 0 < n
  · obtain ⟨b, off, rfl⟩ := h.form h0
    exact h.part l k hk
  · have h1 := h.len; have h4 := h.top
    obtain rfl : k = 0 := by omega
    rw [List.take_zero]
    exact Ls.zero _ _ (by omega)
theorem Ls.cutA {w : World} {ao : Option Addr} {n c : Nat} {zs : List Int} (h : Ls w ao n c zs) (l k : Nat) (hk : l + k ≤ n) :
    Ls w (ao.map fun x => x.add l) k (c - l) ((zs.drop l).take k) := by
  by_cases h0 : 0 < n
  · obtain ⟨b, off, rfl⟩ := h.form h0
    show Ls w (some (Addr.add ⟨b, off, none⟩ l)) _ _ _
    rw [Addr.add_lit]
    exact h.part l k hk
  · have h1 := h.len; have h4 := h.top
    obtain rfl : k = 0 := by omega
    rw [List.take_zero]
    exact Ls.zero _ _ (by omega)
/-- Items have equal parts of the atoms. -/
theorem pr_cons (x : Int) (xs : List Int) : pr (x :: xs) = x * pr xs := by
  have : ∀ (xs : List Int) (a b : Int), xs.foldl (fun n k => n * k) (a * b) = a * xs.foldl (fun n k => n * k) b := by
    intro xs; induction xs with
    | nil => intro a b; rfl
    | cons y ys ih => intro a b; simp only [List.foldl_cons]; rw [Int.mul_assoc, ih]
  have h := this xs x 1
  simpa [pr] using h
theorem item_part {s a : List Int} (h : amE s a = 0) (hn : 1 ≤ itE s a) : ∃ m : Nat, (a.length : Int) = itE s a * m ∧ (m : Int) = pr s.tail ∧ (a.length : Int) / itE s a = m := by
  obtain ⟨h1, h2⟩ := amE_zero h
  obtain ⟨g1, g2, g3⟩ := mayE_zero h1
  cases s with
  | nil => 
    have e : itE [] a = 1 := by simp [itE, h]
    have e2 : pr [] = 1 := rfl
    rw [e] at hn ⊢
    refine ⟨a.length, by omega, by rw [← h2]; rfl, by simp⟩
  | cons x xs =>
    have e : itE (x :: xs) a = x := by simp [itE, h]
    rw [e] at hn ⊢
    rw [pr_cons] at h2
    have hxs : ∀ i, 0 ≤ xs.getD i 0 := fun i => by have := g1 (i + 1); simpa [List.getD] using this
    have hp := (pr_le xs hxs xs.length).1
    rw [List.take_length] at hp
    refine ⟨(pr xs).toNat, by rw [Int.toNat_of_nonneg hp]; exact h2.symm, by simp [Int.toNat_of_nonneg hp], ?_⟩
    rw [Int.toNat_of_nonneg hp, ← h2]
    exact Int.mul_ediv_cancel_left _ (by omega)
theorem ls_of_own {w : World} {base : Nat} {E : TypeId} {ao : Option Addr} {n c : Nat} {zs : List Int} (h : w.ownsRow base E 1 (.slice ao n c) n (zs.map (Value.int .i64))) (hb : n * 8 ≤ 140737488351232)
    (hr : ∀ i, -9223372036854775808 ≤ zs.getD i 0 ∧ zs.getD i 0 ≤ 9223372036854775807) : Ls w ao n c zs := by
  obtain ⟨ao', c', e, h⟩ := ls_own h hb hr
  cases e; exact h
theorem own_block {w : World} {base : Nat} {E : TypeId} {v : Value} {n : Nat} {xs : List Value} (h : w.ownsRow base E 1 v n xs) {g : Nat} (hg : v.ownBlock = some g) : base ≤ g ∧ g < w.heap.size := by
  rcases h.2 with ⟨rfl, _⟩ | ⟨g', cap, cur, rfl, hbg, hg', _⟩
  · simp [Value.ownBlock] at hg
  · simp [Value.ownBlock] at hg
    subst hg
    exact ⟨hbg, (Array.getElem?_eq_some_iff.1 hg').1⟩
theorem own_below {w w' : World} {base B : Nat} {E : TypeId} {v : Value} {n : Nat} {xs : List Value} (h : w.ownsRow base E 1 v n xs) (hb : Below B w w') (hB : w.heap.size ≤ B) : w'.ownsRow base E 1 v n xs := by
  refine ⟨h.1, ?_⟩
  rcases h.2 with h1 | ⟨g, cap, cur, rfl, hbg, hg, h2⟩
  · exact .inl h1
  · refine .inr ⟨g, cap, cur, rfl, hbg, ?_, h2⟩
    rw [hb.block g (by have := (Array.getElem?_eq_some_iff.1 hg).1; omega)]; exact hg
theorem own_mono {w : World} {base base' : Nat} {E : TypeId} {v : Value} {n : Nat} {xs : List Value} (h : w.ownsRow base E 1 v n xs) (hb : base' ≤ base) : w.ownsRow base' E 1 v n xs := by
  refine ⟨h.1, ?_⟩
  rcases h.2 with h1 | ⟨g, cap, cur, rfl, hbg, h2⟩
  · exact .inl h1
  · exact .inr ⟨g, cap, cur, rfl, by omega, h2⟩
theorem made_end {s' a' : List Int} {w w' w2 w3 : World} {ao1 ao2 : Option Addr} {n1 c1 n2 c2 b : Nat} {s a : List Int} (hW : Below w.heap.size w w') (hsz : w.heap.size + 2 ≤ w'.heap.size) (hB1 : Below w'.heap.size w' w2)
    (hO1 : w2.ownsRow w'.heap.size 3 1 (.slice ao1 n1 c1) n1 (s.map (Value.int .i64))) (hB2 : Below w2.heap.size w2 w3)
    (hO2 : w3.ownsRow w2.heap.size 2 1 (.slice ao2 n2 c2) n2 (a.map (Value.int .i64))) (L1 : Ls w2 ao1 n1 c1 s) (L2 : Ls w3 ao2 n2 c2 a) (err : Int) (u v : Value) (hb : b = w.heap.size + 1) (es : s' = s) (ea : a' = a) :
    MadeE w s' a' err (.returned (.tuple #[.agg #[.slice ao1 n1 c1, .slice ao2 n2 c2], .int .i64 err])) ((w3.setCell ⟨b, 0, none⟩ u).setCell ⟨b, 1, none⟩ v) := by
  rw [es, ea]
  have hs1 := hB1.size
  have O1 : ((w3.setCell ⟨b, 0, none⟩ u).setCell ⟨b, 1, none⟩ v).ownsRow w'.heap.size 3 1 (.slice ao1 n1 c1) n1 (s.map (Value.int .i64)) :=
    ownsRow_setCell_below (ownsRow_setCell_below (own_below hO1 hB2 (Nat.le_refl _)) (by show b < _; omega) _) (by show b < _; omega) _
  have O2 : ((w3.setCell ⟨b, 0, none⟩ u).setCell ⟨b, 1, none⟩ v).ownsRow w2.heap.size 2 1 (.slice ao2 n2 c2) n2 (a.map (Value.int .i64)) :=
    ownsRow_setCell_below (ownsRow_setCell_below hO2 (by show b < _; omega) _) (by show b < _; omega) _
  refine ⟨⟨ao1, n1, c1, ao2, n2, c2, s, a⟩, rfl, ⟨ls_of_own O1 L1.big L1.rng, ls_of_own O2 L2.big L2.rng⟩, rfl, rfl, ⟨own_mono O1 (by omega), own_mono O2 (by omega), ?_⟩, ?_⟩
  · intro g h1 h2
    have q1 := own_block hO1 h1
    have q2 := own_block hO2 h2
    omega
  · exact (((hW.trans (hB1.mono (by omega))).trans (hB2.mono (by omega))).setCell (by show _ ≤ b; omega) _).setCell (by show _ ≤ b; omega) _
def itemA (a : List Int) (j m : Nat) : List Int := (a.drop (j * m)).take m
end Go.Proofs.Ythackmkdicpdeaa
namespace Go.Proofs.Ythackmkdicpdeaa
open Go.RowKit Go.Lib
set_option linter.unusedVariables false
set_option linter.unusedSimpArgs false
attribute [local go_sem] alloc_drewN setCell_drewN

/-- The place of an item, counted from the front. -/
def itJ (i n : Int) : Nat := (if i < 0 then i + n else i).toNat
theorem made_mk {w w' : World} {ao1 ao2 : Option Addr} {n1 c1 n2 c2 : Nat} {s a : List Int} (err : Int) (hB : Below w.heap.size w w')
    (O1 : w'.ownsRow w.heap.size 3 1 (.slice ao1 n1 c1) n1 (s.map (Value.int .i64))) (O2 : w'.ownsRow w.heap.size 2 1 (.slice ao2 n2 c2) n2 (a.map (Value.int .i64)))
    (h2 : ∀ g, (Value.slice ao1 n1 c1).ownBlock = some g → (Value.slice ao2 n2 c2).ownBlock ≠ some g)
    (b1 : n1 * 8 ≤ 140737488351232) (b2 : n2 * 8 ≤ 140737488351232) (r1 : ∀ i, -9223372036854775808 ≤ s.getD i 0 ∧ s.getD i 0 ≤ 9223372036854775807) (r2 : ∀ i, -9223372036854775808 ≤ a.getD i 0 ∧ a.getD i 0 ≤ 9223372036854775807) :
    MadeE w s a err (.returned (.tuple #[.agg #[.slice ao1 n1 c1, .slice ao2 n2 c2], .int .i64 err])) w' :=
  ⟨⟨ao1, n1, c1, ao2, n2, c2, s, a⟩, rfl, ⟨ls_of_own O1 b1 r1, ls_of_own O2 b2 r2⟩, rfl, rfl, ⟨O1, O2, h2⟩, hB⟩
theorem rng_one {n : Int} (h : -9223372036854775808 ≤ n ∧ n ≤ 9223372036854775807) : ∀ i, -9223372036854775808 ≤ [n].getD i 0 ∧ [n].getD i 0 ≤ 9223372036854775807 := by
  intro i; cases i with
  | zero => exact h
  | succ k => simp [List.getD]
/-- The call hands back an array of its own. -/
def MadeA (w : World) (s a : List Int) (e : Ending) (w' : World) : Prop :=
  ∃ B : Ar, e = .returned B.v ∧ B.Is w' ∧ B.s = s ∧ B.a = a ∧ B.Own w' w.heap.size ∧ Below w.heap.size w w'
end Go.Proofs.Ythackmkdicpdeaa
namespace Go.Proofs.Ythackmkdicpdeaa
open Go.RowKit Go.Lib
set_option linter.unusedVariables false
set_option linter.unusedSimpArgs false
attribute [local go_sem] alloc_drewN setCell_drewN

set_option maxRecDepth 100000 in
theorem mk_int (N : Nat) (hN : N ≤ 1000000) (w : World) : (Instr.makeSlice 25 (.int .i64 (N : Int)) (.int .i64 (N : Int))).run Try.prog w = .ok (.slice (some ⟨w.heap.size, 0, none⟩) N N) (w.alloc (.cells (Array.replicate N (.int .i64 0)) 3)) := by
  obtain ⟨i0, hi, hz0, hz1, hz2⟩ := info_parts (P := Try.prog) (e := 3) (z := .int .i64 0) (size := 1) (bytes := 8) (by kernel_rfl)
  have h := run_make (P := Try.prog) w 25 3 i0 (.int .i64 0) Try.underlying25 hi hz0 .i64 .i64 N N (by omega) (Int.le_refl _) (by rw [hz2]; omega) (by omega)
  rw [h]
  have e : madeCells (Value.int .i64 0).cells (((N : Int).toNat) * i0.size) = Array.replicate N (.int .i64 0) := by
    rw [hz1, Nat.mul_one, Int.toNat_natCast]
    exact Array.ext' (by rw [show (Value.int .i64 0).cells = #[.int .i64 0] by rfl, toList_madeCells_one]; simp)
  rw [e]
  simp
set_option maxRecDepth 100000 in
theorem mk_int64 (N : Nat) (hN : N ≤ 1000000) (w : World) : (Instr.makeSlice 28 (.int .i64 (N : Int)) (.int .i64 (N : Int))).run Try.prog w = .ok (.slice (some ⟨w.heap.size, 0, none⟩) N N) (w.alloc (.cells (Array.replicate N (.int .i64 0)) 2)) := by
  obtain ⟨i0, hi, hz0, hz1, hz2⟩ := info_parts (P := Try.prog) (e := 2) (z := .int .i64 0) (size := 1) (bytes := 8) (by kernel_rfl)
  have h := run_make (P := Try.prog) w 28 2 i0 (.int .i64 0) Try.underlying28 hi hz0 .i64 .i64 N N (by omega) (Int.le_refl _) (by rw [hz2]; omega) (by omega)
  rw [h]
  have e : madeCells (Value.int .i64 0).cells (((N : Int).toNat) * i0.size) = Array.replicate N (.int .i64 0) := by
    rw [hz1, Nat.mul_one, Int.toNat_natCast]
    exact Array.ext' (by rw [show (Value.int .i64 0).cells = #[.int .i64 0] by rfl, toList_madeCells_one]; simp)
  rw [e]
  simp
theorem own_zeros (w : World) (E : TypeId) (N base : Nat) (hN : N ≤ 1000000) (hb : base ≤ w.heap.size) :
    (w.alloc (.cells (Array.replicate N (.int .i64 0)) E)).ownsRow base E 1 (.slice (some ⟨w.heap.size, 0, none⟩) N N) N ((List.replicate N (0 : Int)).map (Value.int .i64)) := by
  have h := World.ownsRow_lit (base := base) (e := E) (size := 1) w (Array.replicate N (Value.int .i64 0)) N hb (by unfold maxLen; omega) (by simp)
  simpa using h
/-- What lies behind the making of an array out of a copied shape and a row of zeros. -/
structure FillMid (w' wx : World) (b8 n : Nat) (ao1 : Option Addr) (c1 N g : Nat) (s : List Int) (z : List Int) : Prop where
  box : BoxA wx b8 (.slice ao1 n c1) (.slice (some ⟨g, 0, none⟩) N N)
  le : w'.heap.size ≤ b8
  L1 : Ls wx ao1 n c1 s
  O1 : wx.ownsRow w'.heap.size 3 1 (.slice ao1 n c1) n (s.map (Value.int .i64))
  O2 : wx.ownsRow w'.heap.size 2 1 (.slice (some ⟨g, 0, none⟩) N N) N (z.map (Value.int .i64))
  ne : (Value.slice ao1 n c1).ownBlock ≠ some g
  n1 : (Value.slice ao1 n c1).ownBlock ≠ some b8
  n2 : g ≠ b8
  below : Below w'.heap.size w' wx
theorem BoxA.set {W : World} {b : Nat} {u v : Value} (h : BoxA W b u v) (u' v' : Value) : BoxA ((W.setCell ⟨b, 0, none⟩ u').setCell ⟨b, 1, none⟩ v') b u' v' := by
  obtain ⟨c0, c1, f0, f1, lt⟩ := h
  exact ⟨by simp [go_sem, *], by simp [go_sem, *], by simp [go_sem, *], by simp [go_sem, *], by simpa using lt⟩
theorem BoxA.new (W : World) (T : TypeId) (u v : Value) : BoxA (W.alloc (.cells #[u, v] T)) W.heap.size u v :=
  ⟨by simp [go_sem], by simp [go_sem], by simp [go_sem], by simp [go_sem], by simp⟩
theorem ls_set {w : World} {ao : Option Addr} {n c : Nat} {s : List Int} {base b : Nat} {E : TypeId} (h : Ls w ao n c s) (hO : w.ownsRow base E 1 (.slice ao n c) n (s.map (Value.int .i64))) (hb : b < base) (u v : Value) :
    Ls ((w.setCell ⟨b, 0, none⟩ u).setCell ⟨b, 1, none⟩ v) ao n c s :=
  ls_of_own (ownsRow_setCell_below (ownsRow_setCell_below hO (by exact hb) _) (by exact hb) _) h.big h.rng
section
variable {w' w2 : World} {n c1 N : Nat} {ao1 : Option Addr} {s : List Int}
theorem fm_135 (hN : N ≤ 1000000) (hL : Ls w2 ao1 n c1 s) (hO : w2.ownsRow w'.drew.heap.size 3 1 (.slice ao1 n c1) n (s.map (Value.int .i64))) (hB : Below w'.drew.heap.size w'.drew w2) :
    FillMid w' ((w2.alloc (.cells (Array.replicate N (.int .i64 0)) 2)).alloc (.cells #[.slice ao1 n c1, .slice (some ⟨w2.heap.size, 0, none⟩) N N] 45)) (w2.heap.size + 1) n ao1 c1 N (w2.heap.size) s (List.replicate N 0) := by
  have hs := hB.size
  rw [show w'.drew.heap.size = w'.heap.size from rfl] at hs hO
  have hB' : Below w'.heap.size w' w2 := (Below.refl _ _).drew.trans hB
  refine ⟨by simpa using BoxA.new (w2.alloc (.cells (Array.replicate N (.int .i64 0)) 2)) _ _ _, by omega, ?_, (hO.alloc _).alloc _, (own_zeros w2 _ N _ hN hs).alloc _, ?_, ?_, ?_, (hB'.alloc hs _).alloc (by simp; omega) _⟩
  · exact (hL.below ((Below.refl _ _).alloc (Nat.le_refl _) _) (Nat.le_refl _)).below ((Below.refl _ _).alloc (Nat.le_refl _) _) (Nat.le_refl _)
  · intro h1; have := own_block hO h1; omega
  · intro h1; have := own_block hO h1; omega
  · omega
theorem fm_153 (hN : N ≤ 1000000) (hL : Ls w2 ao1 n c1 s) (hO : w2.ownsRow w'.drew.heap.size 3 1 (.slice ao1 n c1) n (s.map (Value.int .i64))) (hB : Below w'.drew.heap.size w'.drew w2) :
    FillMid w' ((w2.alloc (.cells #[.slice ao1 n c1, .slice (some ⟨w2.heap.size + 1, 0, none⟩) N N] 45)).alloc (.cells (Array.replicate N (.int .i64 0)) 2)) w2.heap.size n ao1 c1 N (w2.heap.size + 1) s (List.replicate N 0) := by
  have hs := hB.size
  rw [show w'.drew.heap.size = w'.heap.size from rfl] at hs hO
  have hB' : Below w'.heap.size w' w2 := (Below.refl _ _).drew.trans hB
  have hz := own_zeros (w2.alloc (.cells #[.slice ao1 n c1, .slice (some ⟨w2.heap.size + 1, 0, none⟩) N N] 45)) 2 N w'.heap.size hN (by simp; omega)
  refine ⟨(BoxA.new w2 _ _ _).below ((Below.refl _ _).alloc (Nat.le_refl _) _) (by simp), hs, ?_, (hO.alloc _).alloc _, by simpa using hz, ?_, ?_, ?_, (hB'.alloc hs _).alloc (by simp; omega) _⟩
  · exact (hL.below ((Below.refl _ _).alloc (Nat.le_refl _) _) (Nat.le_refl _)).below ((Below.refl _ _).alloc (Nat.le_refl _) _) (Nat.le_refl _)
  · intro h1; have := own_block hO h1; omega
  · intro h1; have := own_block hO h1; omega
  · omega
theorem fm_315 (hN : N ≤ 1000000) (hL : Ls w2 ao1 n c1 s) (hO : w2.ownsRow (w'.alloc (.cells (Array.replicate N (.int .i64 0)) 2)).drew.heap.size 3 1 (.slice ao1 n c1) n (s.map (Value.int .i64))) (hB : Below (w'.alloc (.cells (Array.replicate N (.int .i64 0)) 2)).drew.heap.size (w'.alloc (.cells (Array.replicate N (.int .i64 0)) 2)).drew w2) :
    FillMid w' (w2.alloc (.cells #[.slice ao1 n c1, .slice (some ⟨w'.heap.size, 0, none⟩) N N] 45)) w2.heap.size n ao1 c1 N (w'.heap.size) s (List.replicate N 0) := by
  have hs := hB.size
  rw [show (w'.alloc (.cells (Array.replicate N (.int .i64 0)) 2)).drew.heap.size = w'.heap.size + 1 by simp] at hs hO
  have hB' : Below w'.heap.size w' w2 := ((Below.refl _ _).alloc (Nat.le_refl _) _).drew.trans (hB.mono (by simp))
  have hz := own_below (w := (w'.alloc (.cells (Array.replicate N (.int .i64 0)) 2)).drew) (own_zeros w' 2 N w'.heap.size hN (Nat.le_refl _)).drew hB (Nat.le_refl _)
  refine ⟨BoxA.new w2 _ _ _, by omega, hL.below ((Below.refl _ _).alloc (Nat.le_refl _) _) (Nat.le_refl _), own_mono (hO.alloc _) (by omega), hz.alloc _, ?_, ?_, ?_, hB'.alloc (by omega) _⟩
  · intro h1; have := own_block hO h1; omega
  · intro h1; have := own_block hO h1; omega
  · omega
theorem fm_351 (hN : N ≤ 1000000) (hL : Ls w2 ao1 n c1 s) (hO : w2.ownsRow ((w'.alloc (.cells (Array.replicate N (.int .i64 0)) 2)).alloc (.cells #[.slice none 0 0, .slice none 0 0] 45)).drew.heap.size 3 1 (.slice ao1 n c1) n (s.map (Value.int .i64))) (hB : Below ((w'.alloc (.cells (Array.replicate N (.int .i64 0)) 2)).alloc (.cells #[.slice none 0 0, .slice none 0 0] 45)).drew.heap.size ((w'.alloc (.cells (Array.replicate N (.int .i64 0)) 2)).alloc (.cells #[.slice none 0 0, .slice none 0 0] 45)).drew w2)
    (hX : BoxA w2 (w'.heap.size + 1) (.slice none 0 0) (.slice none 0 0)) :
    FillMid w' ((w2.setCell ⟨w'.heap.size + 1, 0, none⟩ (.slice ao1 n c1)).setCell ⟨w'.heap.size + 1, 1, none⟩ (.slice (some ⟨w'.heap.size, 0, none⟩) N N)) (w'.heap.size + 1) n ao1 c1 N (w'.heap.size) s (List.replicate N 0) := by
  have hs := hB.size
  rw [show ((w'.alloc (.cells (Array.replicate N (.int .i64 0)) 2)).alloc (.cells #[.slice none 0 0, .slice none 0 0] 45)).drew.heap.size = w'.heap.size + 2 by simp] at hs hO
  have hB' : Below w'.heap.size w' w2 := (((Below.refl _ _).alloc (Nat.le_refl _) _).alloc (by simp) _).drew.trans (hB.mono (by simp; omega))
  have hz := own_below (w := ((w'.alloc (.cells (Array.replicate N (.int .i64 0)) 2)).alloc (.cells #[.slice none 0 0, .slice none 0 0] 45)).drew) ((own_zeros w' 2 N w'.heap.size hN (Nat.le_refl _)).alloc (.cells #[.slice none 0 0, .slice none 0 0] 45)).drew hB (Nat.le_refl _)
  refine ⟨hX.set _ _, by omega, ls_set hL hO (by omega) _ _, own_mono (ownsRow_setCell_below (ownsRow_setCell_below hO (by dsimp only; omega) _) (by dsimp only; omega) _) (by omega), ?_, ?_, ?_, ?_, (hB'.setCell (by dsimp only; omega) _).setCell (by dsimp only; omega) _⟩
  · exact ownsRow_setCell_other (ownsRow_setCell_other hz (by simp [Value.ownBlock]) _) (by simp [Value.ownBlock]) _
  · intro h1; have := own_block hO h1; omega
  · intro h1; have := own_block hO h1; omega
  · omega
theorem fm_513 (hN : N ≤ 1000000) (hL : Ls w2 ao1 n c1 s) (hO : w2.ownsRow (w'.alloc (.cells #[.slice none 0 0, .slice none 0 0] 45)).drew.heap.size 3 1 (.slice ao1 n c1) n (s.map (Value.int .i64))) (hB : Below (w'.alloc (.cells #[.slice none 0 0, .slice none 0 0] 45)).drew.heap.size (w'.alloc (.cells #[.slice none 0 0, .slice none 0 0] 45)).drew w2)
    (hX : BoxA w2 w'.heap.size (.slice none 0 0) (.slice none 0 0)) :
    FillMid w' (((w2.setCell ⟨w'.heap.size, 0, none⟩ (.slice ao1 n c1)).setCell ⟨w'.heap.size, 1, none⟩ (.slice (some ⟨w2.heap.size, 0, none⟩) N N)).alloc (.cells (Array.replicate N (.int .i64 0)) 2)) w'.heap.size n ao1 c1 N (w2.heap.size) s (List.replicate N 0) := by
  have hs := hB.size
  rw [show (w'.alloc (.cells #[.slice none 0 0, .slice none 0 0] 45)).drew.heap.size = w'.heap.size + 1 by simp] at hs hO
  have hB' : Below w'.heap.size w' w2 := ((Below.refl _ _).alloc (Nat.le_refl _) _).drew.trans (hB.mono (by simp))
  have hB2 : Below w'.heap.size w' ((w2.setCell ⟨w'.heap.size, 0, none⟩ (.slice ao1 n c1)).setCell ⟨w'.heap.size, 1, none⟩ (.slice (some ⟨w2.heap.size, 0, none⟩) N N)) := (hB'.setCell (by dsimp only; omega) _).setCell (by dsimp only; omega) _
  have hz := own_zeros ((w2.setCell ⟨w'.heap.size, 0, none⟩ (.slice ao1 n c1)).setCell ⟨w'.heap.size, 1, none⟩ (.slice (some ⟨w2.heap.size, 0, none⟩) N N)) 2 N w'.heap.size hN hB2.size
  refine ⟨(hX.set _ _).below ((Below.refl _ _).alloc (Nat.le_refl _) _) (by simpa using hX.lt), Nat.le_refl _, (ls_set hL hO (by omega) _ _).below ((Below.refl _ _).alloc (Nat.le_refl _) _) (Nat.le_refl _), (own_mono (ownsRow_setCell_below (ownsRow_setCell_below hO (by dsimp only; omega) _) (by dsimp only; omega) _) (by omega)).alloc _, by simpa using hz, ?_, ?_, ?_, hB2.alloc hB2.size _⟩
  · intro h1; have := own_block hO h1; omega
  · intro h1; have := own_block hO h1; omega
  · have := hX.lt; omega
theorem fm_531 (hN : N ≤ 1000000) (hL : Ls w2 ao1 n c1 s) (hO : w2.ownsRow ((w'.alloc (.cells #[.slice none 0 0, .slice none 0 0] 45)).alloc (.cells (Array.replicate N (.int .i64 0)) 2)).drew.heap.size 3 1 (.slice ao1 n c1) n (s.map (Value.int .i64))) (hB : Below ((w'.alloc (.cells #[.slice none 0 0, .slice none 0 0] 45)).alloc (.cells (Array.replicate N (.int .i64 0)) 2)).drew.heap.size ((w'.alloc (.cells #[.slice none 0 0, .slice none 0 0] 45)).alloc (.cells (Array.replicate N (.int .i64 0)) 2)).drew w2)
    (hX : BoxA w2 w'.heap.size (.slice none 0 0) (.slice none 0 0)) :
    FillMid w' ((w2.setCell ⟨w'.heap.size, 0, none⟩ (.slice ao1 n c1)).setCell ⟨w'.heap.size, 1, none⟩ (.slice (some ⟨w'.heap.size + 1, 0, none⟩) N N)) w'.heap.size n ao1 c1 N (w'.heap.size + 1) s (List.replicate N 0) := by
  have hs := hB.size
  rw [show ((w'.alloc (.cells #[.slice none 0 0, .slice none 0 0] 45)).alloc (.cells (Array.replicate N (.int .i64 0)) 2)).drew.heap.size = w'.heap.size + 2 by simp] at hs hO
  have hB' : Below w'.heap.size w' w2 := (((Below.refl _ _).alloc (Nat.le_refl _) _).alloc (by simp) _).drew.trans (hB.mono (by simp; omega))
  have hz0 := own_zeros (w'.alloc (.cells #[.slice none 0 0, .slice none 0 0] 45)) 2 N w'.heap.size hN (by simp)
  rw [show (w'.alloc (.cells #[.slice none 0 0, .slice none 0 0] 45)).heap.size = w'.heap.size + 1 by simp] at hz0
  have hz := own_below (w := ((w'.alloc (.cells #[.slice none 0 0, .slice none 0 0] 45)).alloc (.cells (Array.replicate N (.int .i64 0)) 2)).drew) hz0.drew hB (Nat.le_refl _)
  refine ⟨hX.set _ _, Nat.le_refl _, ls_set hL hO (by omega) _ _, own_mono (ownsRow_setCell_below (ownsRow_setCell_below hO (by dsimp only; omega) _) (by dsimp only; omega) _) (by omega), ?_, ?_, ?_, ?_, (hB'.setCell (by dsimp only; omega) _).setCell (by dsimp only; omega) _⟩
  · exact ownsRow_setCell_other (ownsRow_setCell_other hz (by simp [Value.ownBlock]) _) (by simp [Value.ownBlock]) _
  · intro h1; have := own_block hO h1; omega
  · intro h1; have := own_block hO h1; omega
  · omega
end
theorem FillMid.put {w' wx : World} {b8 n c1 N g k : Nat} {ao1 : Option Addr} {s z : List Int} (h : FillMid w' wx b8 n ao1 c1 N g s z) (x : Int) : FillMid w' (wx.setCell ⟨g, k, none⟩ (.int .i64 x)) b8 n ao1 c1 N g s (z.set k x) := by
  have O1' := ownsRow_setCell_other h.O1 (a := ⟨g, k, none⟩) h.ne (.int .i64 x)
  have hg := (own_block h.O2 (g := g) rfl).1
  refine ⟨⟨?_, ?_, ?_, ?_, ?_⟩, h.le, ls_of_own O1' h.L1.big h.L1.rng, O1', ?_, h.ne, h.n1, h.n2, h.below.setCell hg _⟩
  · rw [World.cell?_setCell_far _ _ _ _ (by exact h.n2)]; exact h.box.c0
  · rw [World.cell?_setCell_far _ _ _ _ (by exact h.n2)]; exact h.box.c1
  · rw [World.frozen?_setCell]; exact h.box.f0
  · rw [World.frozen?_setCell]; exact h.box.f1
  · simpa using h.box.lt
  · have h2 := (h.O2.stored k (.int .i64 x)).1
    rw [List.map_set]
    exact h2
theorem set_fill (x : Int) (k N : Nat) (h : k < N) : (List.replicate k x ++ List.replicate (N - k) (0 : Int)).set k x = List.replicate (k + 1) x ++ List.replicate (N - (k + 1)) 0 := by
  rw [List.set_append_right _ _ (by simp)]
  simp only [List.length_replicate, Nat.sub_self]
  obtain ⟨q, hq⟩ : ∃ q, N - k = q + 1 := ⟨N - k - 1, by omega⟩
  rw [hq, show N - (k + 1) = q by omega, List.replicate_succ (n := q), List.set_cons_zero, List.replicate_succ' (n := k), List.append_assoc]
  rfl
end Go.Proofs.Ythackmkdicpdeaa
namespace Go.Proofs.Ythackmkdicpdeaa
open Go.RowKit Go.Lib
set_option linter.unusedVariables false
set_option linter.unusedSimpArgs false
theorem abal (w : World) (o : Obj) : Below w.heap.size w (w.alloc o) := (Below.refl _ _).alloc (Nat.le_refl _) _
theorem abvia {w W1 W2 : World} (h : Below w.heap.size w W1) (h2 : Below W1.heap.size W1 W2) : Below w.heap.size w W2 := h.trans (h2.mono h.size)
theorem adrew (w : World) (n : Nat) : Below w.heap.size w (w.drewN n) := below_drewN (Below.refl _ _) n
theorem adrew1 (w : World) : Below w.heap.size w w.drew := (Below.refl _ _).drew
theorem BoxA.lt' {W W' : World} {b B : Nat} {u v : Value} (h : BoxA W b u v) (hb : Below B W W') : b < W'.heap.size := Nat.lt_of_lt_of_le h.lt hb.size
/-- A box of one value. -/
structure Box1 (W : World) (b : Nat) (u : Value) : Prop where
  c0 : W.cell? ⟨b, 0, none⟩ = some u
  f0 : W.frozen? ⟨b, 0, none⟩ = false
  lt : b < W.heap.size
theorem Box1.below {W W' : World} {b : Nat} {u : Value} (h : Box1 W b u) {B : Nat} (hb : Below B W W') (hB : b < B) : Box1 W' b u :=
  ⟨(hb.cell (p := ⟨b, 0, none⟩) hB).trans h.c0, (hb.frozen (p := ⟨b, 0, none⟩) hB).trans h.f0, Nat.lt_of_lt_of_le h.lt hb.size⟩
theorem Box1.via {W W' : World} {b : Nat} {u : Value} (h : Box1 W b u) (hb : Below W.heap.size W W') : Box1 W' b u := h.below hb h.lt
theorem BoxA.via {W W' : World} {b : Nat} {u v : Value} (h : BoxA W b u v) (hb : Below W.heap.size W W') : BoxA W' b u v := h.below hb h.lt
theorem Ar.Is.via {A : Ar} {w w' : World} (h : A.Is w) (hb : Below w.heap.size w w') : A.Is w' := h.below hb (Nat.le_refl _)
theorem Ls.via {w w' : World} {ao : Option Addr} {n c : Nat} {zs : List Int} (h : Ls w ao n c zs) (hb : Below w.heap.size w w') : Ls w' ao n c zs := h.below hb (Nat.le_refl _)
theorem Box1.new (W : World) (T : TypeId) (u : Value) : Box1 (W.alloc (.cells #[u] T)) W.heap.size u := ⟨by simp [go_sem], by simp [go_sem], by simp⟩
theorem FillMid.next {w' wx wy : World} {b8 n c1 N g : Nat} {ao1 : Option Addr} {s z : List Int} (h : FillMid w' wx b8 n ao1 c1 N g s z) (hb : Below wx.heap.size wx wy) : FillMid w' wy b8 n ao1 c1 N g s z :=
  ⟨h.box.via hb, h.le, h.L1.via hb, own_below h.O1 hb (Nat.le_refl _), own_below h.O2 hb (Nat.le_refl _), h.ne, h.n1, h.n2, abvia h.below hb⟩
/-- An empty answer. -/
theorem made_nil {w w' : World} (e : Int) (h : Below w.heap.size w w') : MadeE w [] [] e (.returned (.tuple #[.agg #[.slice none 0 0, .slice none 0 0], .int .i64 e])) w' :=
  ⟨⟨none, 0, 0, none, 0, 0, [], []⟩, rfl, Ar.is_nil _, rfl, rfl, Ar.own_nil _ _, h⟩
/-- The answer that was made out of a copied shape and a row. -/
theorem made_mid {w w' wr : World} {b8 n c1 N g b : Nat} {ao1 : Option Addr} {s z : List Int} (h : FillMid w' wr b8 n ao1 c1 N g s z) (hw : Below w.heap.size w w') (hb : b < w'.heap.size) (hb2 : w.heap.size ≤ b) (hN : N ≤ 1000000) (hr : ∀ i, -9223372036854775808 ≤ z.getD i 0 ∧ z.getD i 0 ≤ 9223372036854775807) (u v : Value) :
    MadeE w s z 0 (.returned (.tuple #[.agg #[.slice ao1 n c1, .slice (some ⟨g, 0, none⟩) N N], .int .i64 0])) ((wr.setCell ⟨b, 0, none⟩ u).setCell ⟨b, 1, none⟩ v) := by
  have hs := hw.size
  refine made_mk 0 (((hw.trans (h.below.mono hs)).setCell (by dsimp only; omega) _).setCell (by dsimp only; omega) _) (own_mono (ownsRow_setCell_below (ownsRow_setCell_below h.O1 (by dsimp only; omega) _) (by dsimp only; omega) _) hs) (own_mono (ownsRow_setCell_below (ownsRow_setCell_below h.O2 (by dsimp only; omega) _) (by dsimp only; omega) _) hs) ?_ h.L1.big (by omega) h.L1.rng hr
  intro q h1 h2
  simp [Value.ownBlock] at h2
  subst h2
  exact h.ne h1
end Go.Proofs.Ythackmkdicpdeaa
namespace Go.Proofs.Ythackmkdicpdeaa
open Go.RowKit Go.Lib
set_option linter.unusedVariables false
set_option linter.unusedSimpArgs false
theorem own_form {w : World} {base : Nat} {E : TypeId} {v : Value} {n : Nat} {xs : List Value} (h : w.ownsRow base E 1 v n xs) : ∃ ao c, v = .slice ao n c := by
  rcases h.2 with ⟨rfl, rfl⟩ | ⟨g, cap, cur, rfl, _⟩
  · exact ⟨_, _, rfl⟩
  · exact ⟨_, _, rfl⟩
section
variable {P : Program} (w : World)
theorem run_append_ls (base : Nat) (t ty e : TypeId) (i : TypeInfo) (ht : P.underlying t = some (.slice e)) (hi : P.info? e = some i) (hz : i.zero = some (.int .i64 0)) (hsize : i.size = 1) (hby : i.bytes = 8)
    (v : Value) (n : Nat) (xs : List Int) (hown : w.ownsRow base e 1 v n (xs.map (Value.int .i64))) {ao : Option Addr} {m c : Nat} {zs : List Int} (hL : Ls w ao m c zs)
    (h63 : n + m ≤ 1000000) (hbase : base ≤ w.heap.size) :
    ∃ v' w', (Builtin.append_ #[t, t] ty #[v, .slice ao m c]).run P w = .ok v' w' ∧ w'.ownsRow base e 1 v' (n + m) ((xs ++ zs).map (Value.int .i64)) ∧ w.grownBy w' v.ownBlock := by
  cases ao with
  | some a =>
    have hc : ∀ j u, (zs.map (Value.int .i64))[j]? = some u → w.cell? (a.add j) = some u := by
      intro j u hj
      have hj' : j < zs.length := by
        rcases Nat.lt_or_ge j zs.length with h1 | h1
        · exact h1
        · rw [List.getElem?_eq_none (by simpa using h1)] at hj; cases hj
      have hl := hL.len
      obtain ⟨b, off, e1, hc⟩ := hL.at (by omega)
      cases e1
      rw [Addr.add_lit, hc j (by omega)]
      rw [getD_map_int zs j hj'] at hj
      exact hj
    obtain ⟨v', w', h1, h2, h3, _⟩ := run_append_own (P := P) w base t ty e i (.int .i64 0) 1 8 ht hi hz hsize hby rfl (by decide) v n (xs.map (Value.int .i64)) hown a m c (zs.map (Value.int .i64)) (by simp [hL.len]) hc
      (by intro u hu; simp only [List.mem_map] at hu; obtain ⟨x, _, rfl⟩ := hu; rfl) (by unfold maxLen; omega) (by omega) hbase
    exact ⟨v', w', h1, by rw [List.map_append]; exact h2, h3⟩
  | none =>
    have hm : m = 0 := by
      rcases Nat.eq_zero_or_pos m with h | h
      · exact h
      · obtain ⟨b, off, e1, _⟩ := hL.mem h; cases e1
    subst hm
    have hz0 : zs = [] := List.eq_nil_of_length_eq_zero hL.len
    subst hz0
    refine ⟨v, w, ?_, by simpa using hown, ⟨rfl, rfl, rfl, Nat.le_refl _, fun _ _ _ => rfl⟩⟩
    rcases hown.2 with ⟨rfl, rfl⟩ | ⟨g, cap, cur, rfl, hbg, hg, hnc, hcm, hcs, htake⟩
    · simp [Builtin.append_, run_underlying ht, sizeOf, typeInfo, hi, Builtin.lenOf, Builtin.firstCells, loadCells, loadCellsFrom]
    · simp [Builtin.append_, run_underlying ht, sizeOf, typeInfo, hi, Builtin.lenOf, Builtin.firstCells, storeCells, hnc]
theorem wpList_append_ls {ops : Array Oper} {rest : List Oper} {o : Oper} {a : Act} {Q : Exit → Act → World → Prop} (hgd : o.guard = none) (s x : Operand) (t : TypeId)
    (ho : o.op = .call { callee := .builtin .append, args := #[s, x], argTypes := #[t, t] })
    (base : Nat) (e : TypeId) (i : TypeInfo) (ht : P.underlying t = some (.slice e)) (hi : P.info? e = some i) (hz : i.zero = some (.int .i64 0)) (hsize : i.size = 1) (hby : i.bytes = 8)
    (v : Value) (n : Nat) (xs : List Int) (hs : a.eval s = v) (hown : w.ownsRow base e 1 v n (xs.map (Value.int .i64))) {ao : Option Addr} {m c : Nat} {zs : List Int} (hx : a.eval x = .slice ao m c) (hL : Ls w ao m c zs)
    (h63 : n + m ≤ 1000000) (hbase : base ≤ w.heap.size)
    (h : ∀ v' w', w'.ownsRow base e 1 v' (n + m) ((xs ++ zs).map (Value.int .i64)) → w.grownBy w' v.ownBlock → wpList P ops Q rest (a.put o.dst v') w') : wpList P ops Q (o :: rest) a w :=
  wpList_plain hgd fun _ hK => by
    obtain ⟨v', w', hr, h2, h3⟩ := run_append_ls (P := P) w base t o.type e i ht hi hz hsize hby v n xs hown hL h63 hbase
    unfold Oper.wp execOp
    simp only [ho, resolve, invoke, builtin, Sem.run_bind, Sem.run_pure, Result.andThen_ok, List.map_toArray, List.map_cons, List.map_nil, hs, hx, hr]
    exact hK _ _ (h v' w' h2 h3)
theorem run_append_big (base : Nat) (t ty e : TypeId) (i : TypeInfo) (ht : P.underlying t = some (.slice e)) (hi : P.info? e = some i) (hz : i.zero = some (.int .i64 0)) (hsize : i.size = 1) (hby : i.bytes = 8)
    (v : Value) (n : Nat) (xs : List Int) (hown : w.ownsRow base e 1 v n (xs.map (Value.int .i64))) {ao : Option Addr} {m c : Nat} {zs : List Int} (hL : Ls w ao m c zs)
    (h63 : (n + m) * 8 ≤ 140737488355328) (hbase : base ≤ w.heap.size) :
    ∃ v' w', (Builtin.append_ #[t, t] ty #[v, .slice ao m c]).run P w = .ok v' w' ∧ w'.ownsRow base e 1 v' (n + m) ((xs ++ zs).map (Value.int .i64)) ∧ w.grownBy w' v.ownBlock := by
  cases ao with
  | some a =>
    have hc : ∀ j u, (zs.map (Value.int .i64))[j]? = some u → w.cell? (a.add j) = some u := by
      intro j u hj
      have hj' : j < zs.length := by
        rcases Nat.lt_or_ge j zs.length with h1 | h1
        · exact h1
        · rw [List.getElem?_eq_none (by simpa using h1)] at hj; cases hj
      have hl := hL.len
      obtain ⟨b, off, e1, hc⟩ := hL.at (by omega)
      cases e1
      rw [Addr.add_lit, hc j (by omega)]
      rw [getD_map_int zs j hj'] at hj
      exact hj
    obtain ⟨v', w', h1, h2, h3, _⟩ := run_append_own (P := P) w base t ty e i (.int .i64 0) 1 8 ht hi hz hsize hby rfl (by decide) v n (xs.map (Value.int .i64)) hown a m c (zs.map (Value.int .i64)) (by simp [hL.len]) hc
      (by intro u hu; simp only [List.mem_map] at hu; obtain ⟨x, _, rfl⟩ := hu; rfl) (by unfold maxLen; omega) (by omega) hbase
    exact ⟨v', w', h1, by rw [List.map_append]; exact h2, h3⟩
  | none =>
    have hm : m = 0 := by
      rcases Nat.eq_zero_or_pos m with h | h
      · exact h
      · obtain ⟨b, off, e1, _⟩ := hL.mem h; cases e1
    subst hm
    have hz0 : zs = [] := List.eq_nil_of_length_eq_zero hL.len
    subst hz0
    refine ⟨v, w, ?_, by simpa using hown, ⟨rfl, rfl, rfl, Nat.le_refl _, fun _ _ _ => rfl⟩⟩
    rcases hown.2 with ⟨rfl, rfl⟩ | ⟨g, cap, cur, rfl, hbg, hg, hnc, hcm, hcs, htake⟩
    · simp [Builtin.append_, run_underlying ht, sizeOf, typeInfo, hi, Builtin.lenOf, Builtin.firstCells, loadCells, loadCellsFrom]
    · simp [Builtin.append_, run_underlying ht, sizeOf, typeInfo, hi, Builtin.lenOf, Builtin.firstCells, storeCells, hnc]
theorem wpList_append_big {ops : Array Oper} {rest : List Oper} {o : Oper} {a : Act} {Q : Exit → Act → World → Prop} (hgd : o.guard = none) (s x : Operand) (t : TypeId)
    (ho : o.op = .call { callee := .builtin .append, args := #[s, x], argTypes := #[t, t] })
    (base : Nat) (e : TypeId) (i : TypeInfo) (ht : P.underlying t = some (.slice e)) (hi : P.info? e = some i) (hz : i.zero = some (.int .i64 0)) (hsize : i.size = 1) (hby : i.bytes = 8)
    (v : Value) (n : Nat) (xs : List Int) (hs : a.eval s = v) (hown : w.ownsRow base e 1 v n (xs.map (Value.int .i64))) {ao : Option Addr} {m c : Nat} {zs : List Int} (hx : a.eval x = .slice ao m c) (hL : Ls w ao m c zs)
    (h63 : (n + m) * 8 ≤ 140737488355328) (hbase : base ≤ w.heap.size)
    (h : ∀ v' w', w'.ownsRow base e 1 v' (n + m) ((xs ++ zs).map (Value.int .i64)) → w.grownBy w' v.ownBlock → wpList P ops Q rest (a.put o.dst v') w') : wpList P ops Q (o :: rest) a w :=
  wpList_plain hgd fun _ hK => by
    obtain ⟨v', w', hr, h2, h3⟩ := run_append_big (P := P) w base t o.type e i ht hi hz hsize hby v n xs hown hL h63 hbase
    unfold Oper.wp execOp
    simp only [ho, resolve, invoke, builtin, Sem.run_bind, Sem.run_pure, Result.andThen_ok, List.map_toArray, List.map_cons, List.map_nil, hs, hx, hr]
    exact hK _ _ (h v' w' h2 h3)
end
end Go.Proofs.Ythackmkdicpdeaa
namespace Go.Proofs.Ythackmkdicpdeaa
open Go.RowKit Go.Lib
set_option linter.unusedVariables false
set_option linter.unusedSimpArgs false
/-- Of the blocks that were there those of F alone may hold something else. -/
structure Out (F : Nat → Prop) (w w' : World) : Prop where
  os : w'.os = w.os
  tape : w'.tape = w.tape
  output : w'.output = w.output
  size : w.heap.size ≤ w'.heap.size
  block : ∀ k, k < w.heap.size → ¬ F k → w'.heap[k]? = w.heap[k]?
theorem Out.refl (F : Nat → Prop) (w : World) : Out F w w := ⟨rfl, rfl, rfl, Nat.le_refl _, fun _ _ _ => rfl⟩
theorem Out.trans {F G : Nat → Prop} {a b c : World} (h : Out F a b) (k : Out G b c) (hG : ∀ i, i < a.heap.size → G i → F i) : Out F a c :=
  ⟨k.os.trans h.os, k.tape.trans h.tape, k.output.trans h.output, Nat.le_trans h.size k.size, fun i hi hn => (k.block i (Nat.lt_of_lt_of_le hi h.size) (fun g => hn (hG i hi g))).trans (h.block i hi hn)⟩
theorem Out.weak {F G : Nat → Prop} {a b : World} (h : Out F a b) (hG : ∀ i, i < a.heap.size → F i → G i) : Out G a b :=
  ⟨h.os, h.tape, h.output, h.size, fun i hi hn => h.block i hi (fun g => hn (hG i hi g))⟩
theorem Out.of {F : Nat → Prop} {w w' : World} (h : Below w.heap.size w w') : Out F w w' := ⟨h.os, h.tape, h.output, h.size, fun k hk _ => h.block k hk⟩
theorem Out.via {F : Nat → Prop} {w w1 w2 : World} (h : Out F w w1) (h2 : Below w1.heap.size w1 w2) : Out F w w2 := h.trans (G := fun _ => False) (.of h2) (fun _ _ h => h.elim)
theorem Out.toBelow {F : Nat → Prop} {w w' : World} (h : Out F w w') {B : Nat} (hF : ∀ k, F k → B ≤ k) (hB : B ≤ w.heap.size) : Below B w w' :=
  ⟨h.os, h.tape, h.output, h.size, fun k hk => h.block k (by omega) (fun f => by have := hF k f; omega)⟩
theorem Out.setCell {F : Nat → Prop} {a w : World} (h : Out F a w) {p : Addr} (hp : F p.block ∨ a.heap.size ≤ p.block) (u : Value) : Out F a (w.setCell p u) := by
  have k : Out (fun k => k = p.block) w (w.setCell p u) := ⟨rfl, rfl, rfl, by simp [World.setCell], fun k hk hn => Below.heap_setCell _ _ _ _ hn⟩
  refine h.trans k fun i hi e => ?_
  rcases hp with hp | hp
  · rw [show i = p.block from e]; exact hp
  · have : i = p.block := e
    omega
theorem Out.alloc {F : Nat → Prop} {a w : World} (h : Out F a w) (o : Obj) : Out F a (w.alloc o) := h.via (abal _ _)
theorem Out.grown {F : Nat → Prop} {a w w' : World} {row : Option Nat} (h : Out F a w) (hg : w.grownBy w' row) (hr : ∀ k, row = some k → F k ∨ a.heap.size ≤ k) : Out F a w' := by
  have k : Out (fun k => row = some k) w w' := ⟨hg.os, hg.tape, hg.output, hg.size, fun k hk hn => hg.block k hk (fun e => hn e.symm)⟩
  refine h.trans k fun i hi e => ?_
  rcases hr i e with hp | hp
  · exact hp
  · omega
theorem Out.cell {F : Nat → Prop} {w w' : World} (h : Out F w w') {p : Addr} (hp : p.block < w.heap.size) (hn : ¬ F p.block) : w'.cell? p = w.cell? p := World.cell?_of_block (w := w) (h.block p.block hp hn)
theorem Out.frozen {F : Nat → Prop} {w w' : World} (h : Out F w w') {p : Addr} (hp : p.block < w.heap.size) (hn : ¬ F p.block) : w'.frozen? p = w.frozen? p := World.frozen?_of_block (w := w) (h.block p.block hp hn)
theorem Out.own {F : Nat → Prop} {w w' : World} (h : Out F w w') {base : Nat} {E : TypeId} {v : Value} {n : Nat} {xs : List Value} (ho : w.ownsRow base E 1 v n xs) (hn : ∀ g, v.ownBlock = some g → ¬ F g) : w'.ownsRow base E 1 v n xs := by
  obtain ⟨h1, h2⟩ := ho
  refine ⟨h1, ?_⟩
  rcases h2 with h2 | ⟨g, cap, cur, hv, hg, hh, r⟩
  · exact .inl h2
  · refine .inr ⟨g, cap, cur, hv, hg, ?_, r⟩
    rw [h.block g (by have := (Array.getElem?_eq_some_iff.1 hh).1; omega) (hn g (by rw [hv]; rfl))]; exact hh
theorem Out.boxA {F : Nat → Prop} {w w' : World} (h : Out F w w') {b : Nat} {u v : Value} (hb : BoxA w b u v) (hn : ¬ F b) : BoxA w' b u v :=
  ⟨(h.cell (p := ⟨b, 0, none⟩) hb.lt hn).trans hb.c0, (h.cell (p := ⟨b, 1, none⟩) hb.lt hn).trans hb.c1, (h.frozen (p := ⟨b, 0, none⟩) hb.lt hn).trans hb.f0, (h.frozen (p := ⟨b, 1, none⟩) hb.lt hn).trans hb.f1, Nat.lt_of_lt_of_le hb.lt h.size⟩
/-- A row cut to none of its elements; lengthened to its capacity. -/
theorem own_shut {w : World} {base : Nat} {E : TypeId} {ao : Option Addr} {n c : Nat} {xs : List Value} (h : w.ownsRow base E 1 (.slice ao n c) n xs) : w.ownsRow base E 1 (.slice ao 0 c) 0 [] := by
  obtain ⟨h1, h2⟩ := h
  refine ⟨rfl, ?_⟩
  rcases h2 with ⟨h2, h3⟩ | ⟨g, cap, cur, hv, hg, hh, hc, hm, hs, ht⟩
  · left; cases h2; exact ⟨rfl, rfl⟩
  · right; cases hv; exact ⟨g, c, cur, rfl, hg, hh, by omega, hm, hs, by simp⟩
theorem own_full {w : World} {base : Nat} {E : TypeId} {ao : Option Addr} {n c : Nat} {xs : List Value} (h : w.ownsRow base E 1 (.slice ao n c) n xs) :
    n ≤ c ∧ c ≤ maxLen ∧ ∃ ys : List Value, ys.length = c - n ∧ w.ownsRow base E 1 (.slice ao c c) c (xs ++ ys) := by
  obtain ⟨h1, h2⟩ := h
  rcases h2 with ⟨h2, h3⟩ | ⟨g, cap, cur, hv, hg, hh, hc, hm, hs, ht⟩
  · cases h2
    have : xs = [] := List.eq_nil_of_length_eq_zero (by omega)
    subst this
    exact ⟨Nat.le_refl _, Nat.zero_le _, [], rfl, rfl, .inl ⟨rfl, rfl⟩⟩
  · cases hv
    rw [Nat.mul_one] at ht hs h1
    have hl : cur.toList.length = c := by simpa using hs
    have he : xs ++ cur.toList.drop n = cur.toList := by rw [← ht, List.take_append_drop]
    refine ⟨hc, hm, cur.toList.drop n, by simp; omega, by rw [he]; omega, .inr ⟨g, c, cur, rfl, hg, hh, Nat.le_refl _, hm, by omega, ?_⟩⟩
    rw [Nat.mul_one, he, List.take_of_length_le (by omega)]
/-- A whole row in one piece. -/
theorem own_some {w : World} {base : Nat} {E : TypeId} {ao : Option Addr} {n c : Nat} {xs : List Value} (h : w.ownsRow base E 1 (.slice ao n c) n xs) (h0 : 0 < c) : ∃ g, ao = some ⟨g, 0, none⟩ ∧ base ≤ g ∧ g < w.heap.size := by
  obtain ⟨h1, h2⟩ := h
  rcases h2 with ⟨h2, h3⟩ | ⟨g, cap, cur, hv, hg, hh, hc⟩
  · cases h2; omega
  · cases hv; exact ⟨g, rfl, hg, (Array.getElem?_eq_some_iff.1 hh).1⟩
theorem own_zero {w : World} {base : Nat} {E : TypeId} {ao : Option Addr} {n c : Nat} {xs : List Value} (h : w.ownsRow base E 1 (.slice ao n c) n xs) (h0 : ao = none) : n = 0 ∧ c = 0 := by
  obtain ⟨h1, h2⟩ := h
  rcases h2 with ⟨h2, h3⟩ | ⟨g, cap, cur, hv, hg, hh, hc⟩
  · cases h2; exact ⟨h3, rfl⟩
  · cases hv; cases h0
end Go.Proofs.Ythackmkdicpdeaa

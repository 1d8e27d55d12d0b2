/- Contracts of slices.Clone at []int and []int64; a row that a call owns, read as a list. Contract of arr.Item. Contracts of arr.Item (all cases), arr.Scalar, arr.List. Contract of arr.Fill. Small laws on worlds that lie below one another. append of a slice that reads as a list, to a row that the call owns. Worlds that differ in some blocks alone; rows of the call's own that are shortened, lengthened to their capacity, and written over. -/
import Derived.Test.YthackmkdicpdeaaGreatArrMay
import Derived.Test.YthackmkdicpdeaaGreatShelf
import Derived.Lib.Walk
import Derived.Lib.SliceRun
import Derived.Laws.OwnMore
import Derived.Deep.RegionHeld3
import Derived.IntWalk
import Derived.Deep.CutRange
import Derived.Deep.Cut
namespace Go.Proofs.YthackmkdicpdeaaGreat
open Go.RowKit Go.Lib
set_option linter.unusedVariables false
set_option linter.unusedSimpArgs false
attribute [local go_sem] alloc_drewN setCell_drewN

theorem getD_map_int (zs : List Int) (i : Nat) (h : i < zs.length) : (zs.map (Value.int .i64))[i]? = some (.int .i64 (zs.getD i 0)) := by
  simp [List.getD, List.getElem?_eq_getElem h]
/-- The rows that a call owns read as lists. -/
theorem ls_own {w : World} {base : Nat} {E : TypeId} {v : Value} {n : Nat} {zs : List Int} (h : w.ownsRow base E 1 v n (zs.map (Value.int .i64))) (hb : n * 8 ≤ 140737488351232)
    (hr : ∀ i, -9223372036854775808 ≤ zs.getD i 0 ∧ zs.getD i 0 ≤ 9223372036854775807) : ∃ ao c, v = .slice ao n c ∧ Ls w ao n c zs := by
  have hl : zs.length = n := by have := h.1; simpa using this
  rcases h.2 with ⟨rfl, rfl⟩ | ⟨g, cap, cur, rfl, hbg, hg, hnc, hcm, hcs, htk⟩
  · exact ⟨none, 0, rfl, hl, Nat.le_refl _, hb, Nat.zero_le _, fun h => absurd h (by omega), hr⟩
  · refine ⟨_, cap, rfl, hl, hnc, hb, hcm, fun h0 => ⟨g, 0, rfl, ?_, fun i hi => ?_⟩, hr⟩
    · exact (Array.getElem?_eq_some_iff.1 hg).1
    · rw [Nat.zero_add]
      exact (h.cellAt i (by omega)).trans (getD_map_int zs i (by omega))
/-- The call hands back a copy: a row of its own that reads as zs. -/
def Cloned (w : World) (E : TypeId) (ao : Option Addr) (n : Nat) (zs : List Int) (e : Ending) (w' : World) : Prop :=
  ∃ ao' c', e = .returned (.slice ao' n c') ∧ Ls w' ao' n c' zs ∧ w'.ownsRow w.heap.size E 1 (.slice ao' n c') n (zs.map (Value.int .i64)) ∧ Below w.heap.size w w'
theorem cloned_of {w : World} {E : TypeId} {ao : Option Addr} {n : Nat} {zs : List Int} {e : Ending} {w' : World} {v' : Value} (he : e = .returned v') (hb : n * 8 ≤ 140737488351232)
    (hr : ∀ i, -9223372036854775808 ≤ zs.getD i 0 ∧ zs.getD i 0 ≤ 9223372036854775807) (h : w'.ownsRow w.heap.size E 1 v' n (zs.map (Value.int .i64))) (hB : Below w.heap.size w w') : Cloned w E ao n zs e w' := by
  obtain ⟨ao', c', rfl, hL⟩ := ls_own h hb hr
  exact ⟨ao', c', he, hL, h, hB⟩
set_option maxHeartbeats 2000000 in
set_option maxRecDepth 100000 in
theorem clone0_any (a : Addr) (c : Nat) (w : World) :
    Calls Tryz.prog 131 #[.slice (some a) 0 c] w fun e w' => ∃ v', e = .returned v' ∧ w'.ownsRow w.heap.size 3 1 v' 0 [] ∧ Below w.heap.size w w' := by
  obtain ⟨i0, hi, hz0, hz1, hz2⟩ := info_parts (P := Tryz.prog) (e := 3) (z := .int .i64 0) (size := 1) (bytes := 8) (by kernel_rfl)
  have q22 : ∀ (w : World) (a : Option Addr) (n c n' c' : Nat), (binOp .eql 25 (.slice a n c) (.slice none n' c')).run Tryz.prog w = .ok (.bool a.isNone) w := fun w a n c n' c' => Lib.run_eql_slice_nil w _ _ a n c n' c' Tryz.underlying25
  go_enter Tryz.func131, Tryz.ntmps131
  go_wp2_with (at_builtin; refine wpList_append_own _ rfl _ _ 25 rfl w.heap.size 3 i0 (.int .i64 0) 1 8 Tryz.underlying25 hi hz0 hz1 hz2 rfl (by decide) _ _ _ rfl (World.ownsRow_made w #[] 0 (Nat.le_refl _) (Nat.zero_le _) rfl) a 0 c [] rfl rfl (by intro j u hj; simp at hj) (by intro u hu; cases hu) (by unfold maxLen; omega) (by omega) (by simp) ?_)
  intro v' w1 hown hgrow hnil
  go_wp2
  go_ret
  refine ⟨v', rfl, by simpa using hown, ?_⟩
  exact ((Below.refl _ w).alloc (Nat.le_refl _) _).grown hgrow (by simp) (by intro k hk; simp [Value.ownBlock] at hk; omega)
theorem clone_any {w : World} {ao : Option Addr} {n c : Nat} {zs : List Int} (h : Ls w ao n c zs) :
    Calls Tryz.prog 131 #[.slice ao n c] w (Cloned w 3 ao n zs) := by
  by_cases h0 : n = 0
  · subst h0
    have hz : zs = [] := List.eq_nil_of_length_eq_zero h.len
    subst hz
    cases ao with
    | none =>
      refine (Tryz.slices_Clone_nil_f131 0 c w).mono ?_
      rintro e w' ⟨he, rfl⟩
      exact cloned_of he (by omega) h.rng (World.ownsRow_nil _ _ _ _) (Below.refl _ _)
    | some a =>
      refine (clone0_any a c w).mono ?_
      rintro e w' ⟨v', he, ho, hB⟩
      exact cloned_of he (by omega) h.rng ho hB
  · obtain ⟨b, off, rfl, hc⟩ := h.at (by omega)
    obtain ⟨i0, hi, hz0, hz1, hz2⟩ := info_parts (P := Tryz.prog) (e := 3) (z := .int .i64 0) (size := 1) (bytes := 8) (by kernel_rfl)
    have hb := h.big
    refine (Tryz.slices_Clone_f131 i0 (.int .i64 0) 1 8 hi hz0 hz1 hz2 rfl (by decide) (Tryz.sizeOf3) b off n c (zs.map (Value.int .i64)) w (by simp [h.len]) (by unfold maxLen; omega) (by omega) ?_ ?_).mono ?_
    · intro j u hj
      have hj' : j < zs.length := by
        rcases Nat.lt_or_ge j zs.length with h1 | h1
        · exact h1
        · rw [List.getElem?_eq_none (by simpa using h1)] at hj; cases hj
      rw [getD_map_int zs j hj'] at hj
      cases hj
      exact hc j (by have := h.len; omega)
    · intro u hu
      obtain ⟨x, _, rfl⟩ := List.mem_map.1 hu
      rfl
    · rintro e w' ⟨v', he, ho, _, hB⟩
      exact cloned_of he hb h.rng ho hB
set_option maxHeartbeats 2000000 in
set_option maxRecDepth 100000 in
theorem clone06_any (a : Addr) (c : Nat) (w : World) :
    Calls Tryz.prog 128 #[.slice (some a) 0 c] w fun e w' => ∃ v', e = .returned v' ∧ w'.ownsRow w.heap.size 2 1 v' 0 [] ∧ Below w.heap.size w w' := by
  obtain ⟨i0, hi, hz0, hz1, hz2⟩ := info_parts (P := Tryz.prog) (e := 2) (z := .int .i64 0) (size := 1) (bytes := 8) (by kernel_rfl)
  have q22 : ∀ (w : World) (a : Option Addr) (n c n' c' : Nat), (binOp .eql 28 (.slice a n c) (.slice none n' c')).run Tryz.prog w = .ok (.bool a.isNone) w := fun w a n c n' c' => Lib.run_eql_slice_nil w _ _ a n c n' c' Tryz.underlying28
  go_enter Tryz.func128, Tryz.ntmps128
  go_wp2_with (at_builtin; refine wpList_append_own _ rfl _ _ 28 rfl w.heap.size 2 i0 (.int .i64 0) 1 8 Tryz.underlying28 hi hz0 hz1 hz2 rfl (by decide) _ _ _ rfl (World.ownsRow_made w #[] 0 (Nat.le_refl _) (Nat.zero_le _) rfl) a 0 c [] rfl rfl (by intro j u hj; simp at hj) (by intro u hu; cases hu) (by unfold maxLen; omega) (by omega) (by simp) ?_)
  intro v' w1 hown hgrow hnil
  go_wp2
  go_ret
  refine ⟨v', rfl, by simpa using hown, ?_⟩
  exact ((Below.refl _ w).alloc (Nat.le_refl _) _).grown hgrow (by simp) (by intro k hk; simp [Value.ownBlock] at hk; omega)
theorem clone6_any {w : World} {ao : Option Addr} {n c : Nat} {zs : List Int} (h : Ls w ao n c zs) :
    Calls Tryz.prog 128 #[.slice ao n c] w (Cloned w 2 ao n zs) := by
  by_cases h0 : n = 0
  · subst h0
    have hz : zs = [] := List.eq_nil_of_length_eq_zero h.len
    subst hz
    cases ao with
    | none =>
      refine (Tryz.slices_Clone_nil_f128 0 c w).mono ?_
      rintro e w' ⟨he, rfl⟩
      exact cloned_of he (by omega) h.rng (World.ownsRow_nil _ _ _ _) (Below.refl _ _)
    | some a =>
      refine (clone06_any a c w).mono ?_
      rintro e w' ⟨v', he, ho, hB⟩
      exact cloned_of he (by omega) h.rng ho hB
  · obtain ⟨b, off, rfl, hc⟩ := h.at (by omega)
    obtain ⟨i0, hi, hz0, hz1, hz2⟩ := info_parts (P := Tryz.prog) (e := 2) (z := .int .i64 0) (size := 1) (bytes := 8) (by kernel_rfl)
    have hb := h.big
    refine (Tryz.slices_Clone_f128 i0 (.int .i64 0) 1 8 hi hz0 hz1 hz2 rfl (by decide) (Tryz.sizeOf2) b off n c (zs.map (Value.int .i64)) w (by simp [h.len]) (by unfold maxLen; omega) (by omega) ?_ ?_).mono ?_
    · intro j u hj
      have hj' : j < zs.length := by
        rcases Nat.lt_or_ge j zs.length with h1 | h1
        · exact h1
        · rw [List.getElem?_eq_none (by simpa using h1)] at hj; cases hj
      rw [getD_map_int zs j hj'] at hj
      cases hj
      exact hc j (by have := h.len; omega)
    · intro u hu
      obtain ⟨x, _, rfl⟩ := List.mem_map.1 hu
      rfl
    · rintro e w' ⟨v', he, ho, _, hB⟩
      exact cloned_of he hb h.rng ho hB
end Go.Proofs.YthackmkdicpdeaaGreat
namespace Go.Proofs.YthackmkdicpdeaaGreat
open Go.RowKit Go.Lib
set_option linter.unusedVariables false
set_option linter.unusedSimpArgs false
attribute [local go_sem] alloc_drewN setCell_drewN

/-- An array that a call made: both rows are its own, from base on, in blocks of their own. -/
structure Ar.Own (B : Ar) (w : World) (base : Nat) : Prop where
  shp : w.ownsRow base 3 1 (.slice B.sa B.sn B.sc) B.sn (B.s.map (Value.int .i64))
  ats : w.ownsRow base 2 1 (.slice B.aa B.an B.ac) B.an (B.a.map (Value.int .i64))
  two : ∀ g, (Value.slice B.sa B.sn B.sc).ownBlock = some g → (Value.slice B.aa B.an B.ac).ownBlock ≠ some g
theorem Ar.is_nil (w : World) : Ar.Is ⟨none, 0, 0, none, 0, 0, [], []⟩ w :=
  ⟨⟨rfl, Nat.le_refl _, by simp, Nat.zero_le _, fun h => absurd h (by simp), fun i => by simp [List.getD]⟩, ⟨rfl, Nat.le_refl _, by simp, Nat.zero_le _, fun h => absurd h (by simp), fun i => by simp [List.getD]⟩⟩
theorem Ar.own_nil (w : World) (b : Nat) : Ar.Own ⟨none, 0, 0, none, 0, 0, [], []⟩ w b :=
  ⟨World.ownsRow_nil _ _ _ _, World.ownsRow_nil _ _ _ _, fun g h => by simp [Value.ownBlock] at h⟩
/-- The call hands back an array of its own with these lengths and atoms, and an error number. -/
def MadeE (w : World) (s a : List Int) (err : Int) (e : Ending) (w' : World) : Prop :=
  ∃ B : Ar, e = .returned (.tuple #[B.v, .int .i64 err]) ∧ B.Is w' ∧ B.s = s ∧ B.a = a ∧ B.Own w' w.heap.size ∧ Below w.heap.size w w'
/-- A block of two cells that may be written. -/
structure BoxA (W : World) (b : Nat) (u v : Value) : Prop where
  c0 : W.cell? ⟨b, 0, none⟩ = some u
  c1 : W.cell? ⟨b, 1, none⟩ = some v
  f0 : W.frozen? ⟨b, 0, none⟩ = false
  f1 : W.frozen? ⟨b, 1, none⟩ = false
  lt : b < W.heap.size
theorem BoxA.below {W W' : World} {b : Nat} {u v : Value} (h : BoxA W b u v) {B : Nat} (hb : Below B W W') (hB : b < B) : BoxA W' b u v :=
  ⟨(hb.cell hB).trans h.c0, (hb.cell hB).trans h.c1, (hb.frozen hB).trans h.f0, (hb.frozen hB).trans h.f1, Nat.lt_of_lt_of_le h.lt hb.size⟩
theorem below_box2 (w : World) (A : Array Value) (t : TypeId) (B : Array Value) (u : TypeId) : Below w.heap.size w ((w.alloc (.cells A t)).alloc (.cells B u)) := below_two w A B t u 0
set_option maxHeartbeats 400000 in
theorem item_bad {w : World} {A : Ar} (hA : A.Is w) (i : Int) (hm : amE A.s A.a ≠ 0) :
    Calls Tryz.prog 142 #[A.v, .int .i64 i] w (MadeE w [] [] 1) := by
  obtain ⟨sa, sn, sc, aa, an, ac, s, a⟩ := A
  obtain ⟨h1, h2⟩ := hA
  simp only [Ar.v] at *
  obtain ⟨W, HWW⟩ : ∃ W, Hid ((w.alloc (.cells #[.slice sa sn sc, .slice aa an ac] 38)).alloc (.cells #[.slice none 0 0, .slice none 0 0] 38) = W) := ⟨_, rfl⟩
  have hw : Below w.heap.size w W := by rw [← HWW.out]; exact below_box2 _ _ _ _ _
  have M := Lib.hid (arrmay_any (A := ⟨sa, sn, sc, aa, an, ac, s, a⟩) ⟨h1.below hw (Nat.le_refl _), h2.below hw (Nat.le_refl _)⟩)
  simp only [Ar.v] at M
  obtain ⟨e, HE⟩ : ∃ e, Hid (amE s a = e) := ⟨_, rfl⟩
  have hm' : (e != 0) = true := by rw [← HE.out]; simpa using hm
  rw [HE.out] at M
  have hsz : W.heap.size = w.heap.size + 2 := by rw [← HWW.out]; simp
  have B1 : BoxA W (w.heap.size + 1) (.slice none 0 0) (.slice none 0 0) := by
    rw [← HWW.out]
    exact ⟨by simp [go_sem], by simp [go_sem], by simp [go_sem], by simp [go_sem], by simp⟩
  have HW := Lib.hid hw
  have SZ := Lib.hid hsz
  have HB1 := Lib.hid B1
  clear h1 h2 hw hm hsz B1
  go_enter Tryz.func142, Tryz.ntmps142
  go_wp2_with fail
  rw [HWW.out]
  refine M.out.mono ?_; rintro e w' ⟨rfl, hb⟩
  obtain ⟨k0, k1, k2, k3, k4⟩ := HB1.out.below hb HB1.out.lt
  have HB : Below w.heap.size w w' := HW.out.trans (hb.mono (by have := SZ.out; omega))
  have HBB := Lib.hid HB
  clear HB hb
  go_wp2
  exact bodyPost_ret (v := .tuple #[.agg #[.slice none 0 0, .slice none 0 0], .int .i64 1]) (by simp [results, Tryz.results142, go_sem, *]) rfl ⟨⟨none, 0, 0, none, 0, 0, [], []⟩, rfl, Ar.is_nil _, rfl, rfl, Ar.own_nil _ _, (HBB.out.setCell (by simp) _).setCell (by simp) _⟩
theorem amE_zero {s a : List Int} (h : amE s a = 0) : mayE s = 0 ∧ pr s = a.length := by
  unfold amE at h
  split at h
  · rename_i h1
    split at h
    · exact ⟨h1, by assumption⟩
    · omega
  · omega
theorem itE_bd {s a : List Int} (h : amE s a = 0) : 0 ≤ itE s a ∧ itE s a ≤ 4096 := by
  obtain ⟨h1, h2⟩ := amE_zero h
  obtain ⟨g1, g2, g3⟩ := mayE_zero h1
  unfold itE
  rw [if_pos h]
  split
  · omega
  · have q1 := g1 0
    have q2 := (pm_up s 0).2.2
    have q3 := pm_all s (0 + 1)
    omega
set_option maxHeartbeats 400000 in
theorem item_index {w : World} {A : Ar} (hA : A.Is w) (i : Int) (hm : amE A.s A.a = 0) (hi : i < -(itE A.s A.a) ∨ itE A.s A.a ≤ i) :
    Calls Tryz.prog 142 #[A.v, .int .i64 i] w (MadeE w [] [] 13) := by
  obtain ⟨sa, sn, sc, aa, an, ac, s, a⟩ := A
  obtain ⟨h1, h2⟩ := hA
  simp only [Ar.v] at *
  obtain ⟨W, HWW⟩ : ∃ W, Hid ((w.alloc (.cells #[.slice sa sn sc, .slice aa an ac] 38)).alloc (.cells #[.slice none 0 0, .slice none 0 0] 38) = W) := ⟨_, rfl⟩
  have hw : Below w.heap.size w W := by rw [← HWW.out]; exact below_box2 _ _ _ _ _
  have hIs : Ar.Is ⟨sa, sn, sc, aa, an, ac, s, a⟩ W := ⟨h1.below hw (Nat.le_refl _), h2.below hw (Nat.le_refl _)⟩
  have M := Lib.hid (arrmay_any hIs)
  have T := Lib.hid (fun (w1 : World) (hb : Below W.heap.size W w1) => items_any (hIs.below hb (Nat.le_refl _)))
  simp only [Ar.v, hm] at M T
  have hbd := itE_bd hm
  obtain ⟨n, HN⟩ : ∃ n, Hid (itE s a = n) := ⟨_, rfl⟩
  rw [HN.out] at T hi hbd
  obtain ⟨hbd1, hbd2⟩ := hbd
  have hsz : W.heap.size = w.heap.size + 2 := by rw [← HWW.out]; simp
  have B0 : BoxA W w.heap.size (.slice sa sn sc) (.slice aa an ac) := by
    rw [← HWW.out]
    exact ⟨by simp [go_sem], by simp [go_sem], by simp [go_sem], by simp [go_sem], by simp; omega⟩
  have B1 : BoxA W (w.heap.size + 1) (.slice none 0 0) (.slice none 0 0) := by
    rw [← HWW.out]
    exact ⟨by simp [go_sem], by simp [go_sem], by simp [go_sem], by simp [go_sem], by simp⟩
  have HW := Lib.hid hw
  have SZ := Lib.hid hsz
  have HB1 := Lib.hid B1
  have HB0 := Lib.hid B0
  clear h1 h2 hw hm hsz B1 B0 hIs
  go_enter Tryz.func142, Tryz.ntmps142
  go_wp2_with fail
  rw [HWW.out]
  refine M.out.mono ?_; rintro e w1 ⟨rfl, hb⟩
  obtain ⟨j0, j1, j2, j3, j4⟩ := HB0.out.below hb HB0.out.lt
  have HB' := Lib.hid hb
  clear hb
  go_wp2_with fail
  refine (T.out w1 HB'.out).mono ?_; rintro e w' ⟨rfl, hb2⟩
  have hb : Below W.heap.size W w' := HB'.out.trans (hb2.mono HB'.out.size)
  clear j0 j1 j2 j3 j4
  obtain ⟨k0, k1, k2, k3, k4⟩ := HB1.out.below hb HB1.out.lt
  have HB : Below w.heap.size w w' := HW.out.trans (hb.mono (by have := SZ.out; omega))
  have HBB := Lib.hid HB
  clear HB hb hb2
  rcases hi with hi | hi
  · go_wp2
    exact bodyPost_ret (v := .tuple #[.agg #[.slice none 0 0, .slice none 0 0], .int .i64 13]) (by simp [results, Tryz.results142, go_sem, *]) rfl ⟨⟨none, 0, 0, none, 0, 0, [], []⟩, rfl, Ar.is_nil _, rfl, rfl, Ar.own_nil _ _, (HBB.out.setCell (by simp) _).setCell (by simp) _⟩
  · have hi0 : ¬ i < -n := by omega
    go_wp2
    exact bodyPost_ret (v := .tuple #[.agg #[.slice none 0 0, .slice none 0 0], .int .i64 13]) (by simp [results, Tryz.results142, go_sem, *]) rfl ⟨⟨none, 0, 0, none, 0, 0, [], []⟩, rfl, Ar.is_nil _, rfl, rfl, Ar.own_nil _ _, (HBB.out.setCell (by simp) _).setCell (by simp) _⟩
/-- A part of a slice. -/
theorem Ls.part {w : World} {b off n c : Nat} {zs : List Int} (h : Ls w (some ⟨b, off, none⟩) n c zs) (l k : Nat) (hk : l + k ≤ n) :
    Ls w (some ⟨b, off + l, none⟩) k (c - l) ((zs.drop l).take k) := by
  have h1 := h.len; have h2 := h.cap; have h3 := h.big; have h4 := h.top
  have hg : ∀ i, i < k → ((zs.drop l).take k).getD i 0 = zs.getD (l + i) 0 := fun i hi => by
    simp only [List.getD, List.getElem?_take, List.getElem?_drop, if_pos hi]
  refine ⟨by simp; omega, by omega, by omega, by omega, fun h0 => ?_, fun i => ?_⟩
  · obtain ⟨b', off', e, hlt, hc⟩ := h.mem (by omega)
    cases e
    exact ⟨b, off + l, rfl, hlt, fun i hi => by rw [hg i hi, Nat.add_assoc]; exact hc (l + i) (by omega)⟩
  · by_cases hi : i < k
    · rw [hg i hi]; exact h.rng _
    · rw [show ((zs.drop l).take k).getD i 0 = 0 by simp [List.getD, List.getElem?_take, hi]]; omega
theorem Ls.form {w : World} {ao : Option Addr} {n c : Nat} {zs : List Int} (h : Ls w ao n c zs) (h0 : 0 < n) : ∃ b off, ao = some ⟨b, off, none⟩ := by
  obtain ⟨b, off, e, _⟩ := h.mem h0; exact ⟨b, off, e⟩
theorem Ls.zero (w : World) (ao : Option Addr) {c : Nat} (h : c ≤ maxLen) : Ls w ao 0 c [] :=
  ⟨rfl, Nat.zero_le _, by simp, h, fun h => absurd h (by simp), fun i => by simp [List.getD]⟩
theorem Ls.cut {w : World} {ao : Option Addr} {n c : Nat} {zs : List Int} (h : Ls w ao n c zs) (l k : Nat) (hk : l + k ≤ n) :
    Ls w (ao.map fun x => { block := x.block, off := x.off + l }) k (c - l) ((zs.drop l).take k) := by
  by_cases h0 : 0 < n
  · obtain ⟨b, off, rfl⟩ := h.form h0
    exact h.part l k hk
  · have h1 := h.len; have h4 := h.top
    obtain rfl : k = 0 := by omega
    rw [List.take_zero]
    exact Ls.zero _ _ (by omega)
theorem Ls.cutA {w : World} {ao : Option Addr} {n c : Nat} {zs : List Int} (h : Ls w ao n c zs) (l k : Nat) (hk : l + k ≤ n) :
    Ls w (ao.map fun x => x.add l) k (c - l) ((zs.drop l).take k) := by
  by_cases h0 : 0 < n
  · obtain ⟨b, off, rfl⟩ := h.form h0
    show Ls w (some (Addr.add ⟨b, off, none⟩ l)) _ _ _
    rw [Addr.add_lit]
    exact h.part l k hk
  · have h1 := h.len; have h4 := h.top
    obtain rfl : k = 0 := by omega
    rw [List.take_zero]
    exact Ls.zero _ _ (by omega)
/-- Items have equal parts of the atoms. -/
theorem pr_cons (x : Int) (xs : List Int) : pr (x :: xs) = x * pr xs := by
  have : ∀ (xs : List Int) (a b : Int), xs.foldl (fun n k => n * k) (a * b) = a * xs.foldl (fun n k => n * k) b := by
    intro xs; induction xs with
    | nil => intro a b; rfl
    | cons y ys ih => intro a b; simp only [List.foldl_cons]; rw [Int.mul_assoc, ih]
  have h := this xs x 1
  simpa [pr] using h
theorem item_part {s a : List Int} (h : amE s a = 0) (hn : 1 ≤ itE s a) : ∃ m : Nat, (a.length : Int) = itE s a * m ∧ (m : Int) = pr s.tail ∧ (a.length : Int) / itE s a = m := by
  obtain ⟨h1, h2⟩ := amE_zero h
  obtain ⟨g1, g2, g3⟩ := mayE_zero h1
  cases s with
  | nil => 
    have e : itE [] a = 1 := by simp [itE, h]
    have e2 : pr [] = 1 := rfl
    rw [e] at hn ⊢
    refine ⟨a.length, by omega, by rw [← h2]; rfl, by simp⟩
  | cons x xs =>
    have e : itE (x :: xs) a = x := by simp [itE, h]
    rw [e] at hn ⊢
    rw [pr_cons] at h2
    have hxs : ∀ i, 0 ≤ xs.getD i 0 := fun i => by have := g1 (i + 1); simpa [List.getD] using this
    have hp := (pr_le xs hxs xs.length).1
    rw [List.take_length] at hp
    refine ⟨(pr xs).toNat, by rw [Int.toNat_of_nonneg hp]; exact h2.symm, by simp [Int.toNat_of_nonneg hp], ?_⟩
    rw [Int.toNat_of_nonneg hp, ← h2]
    exact Int.mul_ediv_cancel_left _ (by omega)
theorem ls_of_own {w : World} {base : Nat} {E : TypeId} {ao : Option Addr} {n c : Nat} {zs : List Int} (h : w.ownsRow base E 1 (.slice ao n c) n (zs.map (Value.int .i64))) (hb : n * 8 ≤ 140737488351232)
    (hr : ∀ i, -9223372036854775808 ≤ zs.getD i 0 ∧ zs.getD i 0 ≤ 9223372036854775807) : Ls w ao n c zs := by
  obtain ⟨ao', c', e, h⟩ := ls_own h hb hr
  cases e; exact h
theorem own_block {w : World} {base : Nat} {E : TypeId} {v : Value} {n : Nat} {xs : List Value} (h : w.ownsRow base E 1 v n xs) {g : Nat} (hg : v.ownBlock = some g) : base ≤ g ∧ g < w.heap.size := by
  rcases h.2 with ⟨rfl, _⟩ | ⟨g', cap, cur, rfl, hbg, hg', _⟩
  · simp [Value.ownBlock] at hg
  · simp [Value.ownBlock] at hg
    subst hg
    exact ⟨hbg, (Array.getElem?_eq_some_iff.1 hg').1⟩
theorem own_below {w w' : World} {base B : Nat} {E : TypeId} {v : Value} {n : Nat} {xs : List Value} (h : w.ownsRow base E 1 v n xs) (hb : Below B w w') (hB : w.heap.size ≤ B) : w'.ownsRow base E 1 v n xs := by
  refine ⟨h.1, ?_⟩
  rcases h.2 with h1 | ⟨g, cap, cur, rfl, hbg, hg, h2⟩
  · exact .inl h1
  · refine .inr ⟨g, cap, cur, rfl, hbg, ?_, h2⟩
    rw [hb.block g (by have := (Array.getElem?_eq_some_iff.1 hg).1; omega)]; exact hg
theorem own_mono {w : World} {base base' : Nat} {E : TypeId} {v : Value} {n : Nat} {xs : List Value} (h : w.ownsRow base E 1 v n xs) (hb : base' ≤ base) : w.ownsRow base' E 1 v n xs := by
  refine ⟨h.1, ?_⟩
  rcases h.2 with h1 | ⟨g, cap, cur, rfl, hbg, h2⟩
  · exact .inl h1
  · exact .inr ⟨g, cap, cur, rfl, by omega, h2⟩
theorem made_end {s' a' : List Int} {w w' w2 w3 : World} {ao1 ao2 : Option Addr} {n1 c1 n2 c2 b : Nat} {s a : List Int} (hW : Below w.heap.size w w') (hsz : w.heap.size + 2 ≤ w'.heap.size) (hB1 : Below w'.heap.size w' w2)
    (hO1 : w2.ownsRow w'.heap.size 3 1 (.slice ao1 n1 c1) n1 (s.map (Value.int .i64))) (hB2 : Below w2.heap.size w2 w3)
    (hO2 : w3.ownsRow w2.heap.size 2 1 (.slice ao2 n2 c2) n2 (a.map (Value.int .i64))) (L1 : Ls w2 ao1 n1 c1 s) (L2 : Ls w3 ao2 n2 c2 a) (err : Int) (u v : Value) (hb : b = w.heap.size + 1) (es : s' = s) (ea : a' = a) :
    MadeE w s' a' err (.returned (.tuple #[.agg #[.slice ao1 n1 c1, .slice ao2 n2 c2], .int .i64 err])) ((w3.setCell ⟨b, 0, none⟩ u).setCell ⟨b, 1, none⟩ v) := by
  rw [es, ea]
  have hs1 := hB1.size
  have O1 : ((w3.setCell ⟨b, 0, none⟩ u).setCell ⟨b, 1, none⟩ v).ownsRow w'.heap.size 3 1 (.slice ao1 n1 c1) n1 (s.map (Value.int .i64)) :=
    ownsRow_setCell_below (ownsRow_setCell_below (own_below hO1 hB2 (Nat.le_refl _)) (by show b < _; omega) _) (by show b < _; omega) _
  have O2 : ((w3.setCell ⟨b, 0, none⟩ u).setCell ⟨b, 1, none⟩ v).ownsRow w2.heap.size 2 1 (.slice ao2 n2 c2) n2 (a.map (Value.int .i64)) :=
    ownsRow_setCell_below (ownsRow_setCell_below hO2 (by show b < _; omega) _) (by show b < _; omega) _
  refine ⟨⟨ao1, n1, c1, ao2, n2, c2, s, a⟩, rfl, ⟨ls_of_own O1 L1.big L1.rng, ls_of_own O2 L2.big L2.rng⟩, rfl, rfl, ⟨own_mono O1 (by omega), own_mono O2 (by omega), ?_⟩, ?_⟩
  · intro g h1 h2
    have q1 := own_block hO1 h1
    have q2 := own_block hO2 h2
    omega
  · exact (((hW.trans (hB1.mono (by omega))).trans (hB2.mono (by omega))).setCell (by show _ ≤ b; omega) _).setCell (by show _ ≤ b; omega) _
def itemA (a : List Int) (j m : Nat) : List Int := (a.drop (j * m)).take m
set_option maxRecDepth 100000 in
set_option maxHeartbeats 800000 in
theorem item_ok0 {w : World} {A : Ar} (hA : A.Is w) (i : Int) (hm : amE A.s A.a = 0) (hi1 : -(itE A.s A.a) ≤ i) (hi2 : i < itE A.s A.a) (hneg : i < 0) (hemp : A.sn = 0) (j m : Nat)
    (hj : (j : Int) = if i < 0 then i + itE A.s A.a else i) (hmm : (m : Int) = pr A.s.tail) :
    Calls Tryz.prog 142 #[A.v, .int .i64 i] w (MadeE w A.s.tail (itemA A.a j m) 0) := by
  obtain ⟨sa, sn, sc, aa, an, ac, s, a⟩ := A
  obtain ⟨h1, h2⟩ := hA
  simp only [Ar.v] at *
  first | subst hemp | (obtain ⟨rfl, rfl⟩ := hemp) | (obtain ⟨he1, he2⟩ := hemp)
  have hc1 := h1.cap
  have hc2 := h2.cap
  have hc3 := h1.top
  have hc4 := h2.top
  have hl1 := h1.len
  obtain ⟨W, HWW⟩ : ∃ W, Hid ((w.alloc (.cells #[.slice sa 0 sc, .slice aa an ac] 38)).alloc (.cells #[.slice none 0 0, .slice none 0 0] 38) = W) := ⟨_, rfl⟩
  have hw : Below w.heap.size w W := by rw [← HWW.out]; exact below_box2 _ _ _ _ _
  have hIs : Ar.Is ⟨sa, 0, sc, aa, an, ac, s, a⟩ W := ⟨h1.below hw (Nat.le_refl _), h2.below hw (Nat.le_refl _)⟩
  have M := Lib.hid (arrmay_any hIs)
  have T := Lib.hid (fun (w1 : World) (hb : Below W.heap.size W w1) => items_any (hIs.below hb (Nat.le_refl _)))
  simp only [Ar.v, hm] at M T
  have hbd := itE_bd hm
  have hn1 : 1 ≤ itE s a := by omega
  obtain ⟨m', e1, e2, e3⟩ := item_part hm hn1
  obtain rfl : m' = m := by rw [← hmm] at e2; omega
  obtain ⟨n, HN⟩ : ∃ n, Hid (itE s a = n) := ⟨_, rfl⟩
  rw [HN.out] at T hi1 hi2 hbd hj hn1 e1 e3
  rw [h2.len] at e1 e3
  obtain ⟨hbd1, hbd2⟩ := hbd
  have hj2 : (j : Int) < n := by split at hj <;> omega
  have hjm : j * m' + m' ≤ an := by
    have q1 : (j : Int) + 1 ≤ n := by omega
    have q2 : ((j : Int) + 1) * m' ≤ n * m' := Int.mul_le_mul_of_nonneg_right q1 (by omega)
    rw [← e1, Int.add_mul, Int.one_mul] at q2
    omega
  have han : (an : Int) ≤ 4096 := by
    obtain ⟨q1, q2⟩ := amE_zero hm
    obtain ⟨g1, g2, g3⟩ := mayE_zero q1
    have q3 := pr_le s g1 s.length
    rw [List.take_length] at q3
    have := h2.len
    omega
  obtain ⟨p, HP⟩ : ∃ p, Hid (j * m' = p) := ⟨_, rfl⟩
  have hmul : (i + n) * (m' : Int) = (p : Int) := by
    have : (i + n) = (j : Int) := by rw [hj]; split <;> first | rfl | omega
    rw [this, ← HP.out]; simp
  rw [HP.out] at hjm
  have hsz : W.heap.size = w.heap.size + 2 := by rw [← HWW.out]; simp
  have B0 : BoxA W w.heap.size (.slice sa 0 sc) (.slice aa an ac) := by
    rw [← HWW.out]
    exact ⟨by simp [go_sem], by simp [go_sem], by simp [go_sem], by simp [go_sem], by simp; omega⟩
  have B1 : BoxA W (w.heap.size + 1) (.slice none 0 0) (.slice none 0 0) := by
    rw [← HWW.out]
    exact ⟨by simp [go_sem], by simp [go_sem], by simp [go_sem], by simp [go_sem], by simp⟩
  have HW := Lib.hid hw
  have SZ := Lib.hid hsz
  have HB1 := Lib.hid B1
  have HB0 := Lib.hid B0
  have HJ := Lib.hid hj
  have HIS := Lib.hid hIs
  clear h1 h2 hw hm hsz B1 B0 hIs hmm e1 e2 hj hj2
  go_enter Tryz.func142, Tryz.ntmps142
  go_wp2_with fail
  rw [HWW.out]
  refine M.out.mono ?_; rintro e w1 ⟨rfl, hb⟩
  obtain ⟨j0, j1, j2, j3, j4⟩ := HB0.out.below hb HB0.out.lt
  have HB' := Lib.hid hb
  clear hb
  go_wp2_with fail
  refine (T.out w1 HB'.out).mono ?_; rintro e w' ⟨rfl, hb2⟩
  have hb : Below W.heap.size W w' := HB'.out.trans (hb2.mono HB'.out.size)
  clear j0 j1 j2 j3 j4
  obtain ⟨j0, j1, j2, j3, j4⟩ := HB0.out.below hb HB0.out.lt
  obtain ⟨k0, k1, k2, k3, k4⟩ := HB1.out.below hb HB1.out.lt
  have CA := Lib.hid (fun W1 (hB : Below w'.heap.size w' W1) => clone_any ((HIS.out.shp.below hb (Nat.le_refl _)).below hB (Nat.le_refl _)))
  have HK0 := Lib.hid (HB0.out.below hb HB0.out.lt)
  have HK1 := Lib.hid (HB1.out.below hb HB1.out.lt)
  have HI := Lib.hid (HIS.out.below hb (Nat.le_refl _))
  have HB : Below w.heap.size w w' := HW.out.trans (hb.mono (by have := SZ.out; omega))
  have HBB := Lib.hid HB
  have HSW : Hid (w.heap.size + 2 ≤ w'.heap.size) := by show _ ≤ _; have h1 := SZ.out; have h2 := hb.size; omega
  have HTL : Hid (s.tail = s) := by
    show _ = _
    first | rfl | (rw [List.eq_nil_of_length_eq_zero hl1]; rfl) | (rw [List.drop_one, List.take_of_length_le]; simp [hl1]) | (exact List.eq_nil_of_length_eq_zero (by simp [hl1]))
  clear HB hb hb2
  go_wp2_with fail
  rcases (show p = ac ∨ p < ac by omega) with hpc | hpc
  · obtain rfl : m' = 0 := by omega
    have hp0 : p = 0 := by rw [← HP.out]; simp
    obtain rfl : ac = 0 := by omega
    subst hp0
    have CB := Lib.hid (fun W1 (hB : Below w'.heap.size w' W1) => clone6_any (Ls.zero W1 aa (Nat.zero_le _ : 0 ≤ maxLen)))
    have z5 : IntKind.i64.wrap (0 : Int) = 0 := IntWalk.i64_in _ (by omega)
    have HIA : Hid (itemA a j 0 = []) := by show _ = _; simp [itemA]
    clear hmul hpc
    go_region_held3 (fun w'' => w''.cell? ⟨w.heap.size, 1, none⟩ = some (.slice aa an 0)) (go_keep)
      (first
        | (go_at_call 131; refine (CA.out _ ?_).mono ?_; (exact (Below.refl _ _).drew); rintro e w2 ⟨ao1, c1, rfl, hL1, hO1, hB0⟩; have hB1 : Below w'.heap.size w' w2 := ((Below.refl _ _).drew).trans hB0; have r1 := (hB1.cell (p := ⟨w.heap.size, 1, none⟩) HK0.out.lt).trans HK0.out.c1)
        | (go_at_call 128; refine (CB.out _ ?_).mono ?_; (exact hB1); rintro e w3 ⟨ao2, c2, rfl, hL2, hO2, hB2⟩; have r2 := ((HK0.out.below hB1 HK0.out.lt).below hB2 (Nat.lt_of_lt_of_le HK0.out.lt hB1.size)).c1; obtain ⟨q0, q1, q2, q3, q4⟩ := (HK1.out.below hB1 HK1.out.lt).below hB2 (Nat.lt_of_lt_of_le HK1.out.lt hB1.size)))
    have HE1 := Lib.hid (made_end HBB.out HSW.out hB1 hO1 hB2 hO2 hL1 hL2 0 (.slice ao1 (0) c1) (.slice ao2 0 c2) rfl HTL.out HIA.out)
    clear hB1 hO1 hB2 hO2 hL1 hL2 hB0
    go_wp2
    exact bodyPost_ret (v := .tuple #[.agg #[.slice ao1 (0) c1, .slice ao2 0 c2], .int .i64 0]) (by simp [results, Tryz.results142, go_sem, *]) rfl HE1.out
  · have CB := Lib.hid (fun W1 (hB : Below w'.heap.size w' W1) => clone6_any ((HI.out.ats.cutA p m' hjm).below hB (Nat.le_refl _)))
    have HIA : Hid (itemA a j m' = (a.drop p).take m') := by show _ = _; rw [← HP.out]; rfl
    have z0 : ¬ ac = p := by omega
    have z1 : (0 : Int) ≤ p := by omega
    have z2 : (p : Int) ≤ p + m' := by omega
    have z3 : (p : Int) + m' ≤ ac := by omega
    have z4 : IntKind.i64.wrap ((p : Int) + m') = p + m' := IntWalk.i64_in _ (by omega)
    have z5 : ((p : Int) + m').toNat = p + m' := by omega
    have z6 : IntKind.i64.wrap ((i + n) * m') = p := by rw [hmul]; exact IntWalk.i64_in _ (by omega)
    have z7 : (p : Int) < ac := by omega
    have z8 : ¬ ac - p = 0 := by omega
    have z9 : p + m' - p = m' := by omega
    have z10 : IntKind.i64.wrap (p : Int) = p := IntWalk.i64_in _ (by omega)
    clear hmul
    go_region_held3 (fun w'' => w''.cell? ⟨w.heap.size, 1, none⟩ = some (.slice aa an ac)) (go_keep)
      (first
        | (go_at_call 131; refine (CA.out _ ?_).mono ?_; (exact (Below.refl _ _).drew); rintro e w2 ⟨ao1, c1, rfl, hL1, hO1, hB0⟩; have hB1 : Below w'.heap.size w' w2 := ((Below.refl _ _).drew).trans hB0; have r1 := (hB1.cell (p := ⟨w.heap.size, 1, none⟩) HK0.out.lt).trans HK0.out.c1)
        | (go_at_call 128; refine (CB.out _ ?_).mono ?_; (exact hB1); rintro e w3 ⟨ao2, c2, rfl, hL2, hO2, hB2⟩; have r2 := ((HK0.out.below hB1 HK0.out.lt).below hB2 (Nat.lt_of_lt_of_le HK0.out.lt hB1.size)).c1; obtain ⟨q0, q1, q2, q3, q4⟩ := (HK1.out.below hB1 HK1.out.lt).below hB2 (Nat.lt_of_lt_of_le HK1.out.lt hB1.size)))
    have HE1 := Lib.hid (made_end HBB.out HSW.out hB1 hO1 hB2 hO2 hL1 hL2 0 (.slice ao1 (0) c1) (.slice ao2 m' c2) rfl HTL.out HIA.out)
    clear hB1 hO1 hB2 hO2 hL1 hL2 hB0
    go_wp2
    exact bodyPost_ret (v := .tuple #[.agg #[.slice ao1 (0) c1, .slice ao2 m' c2], .int .i64 0]) (by simp [results, Tryz.results142, go_sem, *]) rfl HE1.out
set_option maxRecDepth 100000 in
set_option maxHeartbeats 800000 in
theorem item_ok1 {w : World} {A : Ar} (hA : A.Is w) (i : Int) (hm : amE A.s A.a = 0) (hi1 : -(itE A.s A.a) ≤ i) (hi2 : i < itE A.s A.a) (hneg : i < 0) (hemp : 1 < A.sc ∧ 0 < A.sn) (j m : Nat)
    (hj : (j : Int) = if i < 0 then i + itE A.s A.a else i) (hmm : (m : Int) = pr A.s.tail) :
    Calls Tryz.prog 142 #[A.v, .int .i64 i] w (MadeE w A.s.tail (itemA A.a j m) 0) := by
  obtain ⟨sa, sn, sc, aa, an, ac, s, a⟩ := A
  obtain ⟨h1, h2⟩ := hA
  simp only [Ar.v] at *
  first | subst hemp | (obtain ⟨rfl, rfl⟩ := hemp) | (obtain ⟨he1, he2⟩ := hemp)
  have hc1 := h1.cap
  have hc2 := h2.cap
  have hc3 := h1.top
  have hc4 := h2.top
  have hl1 := h1.len
  obtain ⟨W, HWW⟩ : ∃ W, Hid ((w.alloc (.cells #[.slice sa sn sc, .slice aa an ac] 38)).alloc (.cells #[.slice none 0 0, .slice none 0 0] 38) = W) := ⟨_, rfl⟩
  have hw : Below w.heap.size w W := by rw [← HWW.out]; exact below_box2 _ _ _ _ _
  have hIs : Ar.Is ⟨sa, sn, sc, aa, an, ac, s, a⟩ W := ⟨h1.below hw (Nat.le_refl _), h2.below hw (Nat.le_refl _)⟩
  have M := Lib.hid (arrmay_any hIs)
  have T := Lib.hid (fun (w1 : World) (hb : Below W.heap.size W w1) => items_any (hIs.below hb (Nat.le_refl _)))
  simp only [Ar.v, hm] at M T
  have hbd := itE_bd hm
  have hn1 : 1 ≤ itE s a := by omega
  obtain ⟨m', e1, e2, e3⟩ := item_part hm hn1
  obtain rfl : m' = m := by rw [← hmm] at e2; omega
  obtain ⟨n, HN⟩ : ∃ n, Hid (itE s a = n) := ⟨_, rfl⟩
  rw [HN.out] at T hi1 hi2 hbd hj hn1 e1 e3
  rw [h2.len] at e1 e3
  obtain ⟨hbd1, hbd2⟩ := hbd
  have hj2 : (j : Int) < n := by split at hj <;> omega
  have hjm : j * m' + m' ≤ an := by
    have q1 : (j : Int) + 1 ≤ n := by omega
    have q2 : ((j : Int) + 1) * m' ≤ n * m' := Int.mul_le_mul_of_nonneg_right q1 (by omega)
    rw [← e1, Int.add_mul, Int.one_mul] at q2
    omega
  have han : (an : Int) ≤ 4096 := by
    obtain ⟨q1, q2⟩ := amE_zero hm
    obtain ⟨g1, g2, g3⟩ := mayE_zero q1
    have q3 := pr_le s g1 s.length
    rw [List.take_length] at q3
    have := h2.len
    omega
  obtain ⟨p, HP⟩ : ∃ p, Hid (j * m' = p) := ⟨_, rfl⟩
  have hmul : (i + n) * (m' : Int) = (p : Int) := by
    have : (i + n) = (j : Int) := by rw [hj]; split <;> first | rfl | omega
    rw [this, ← HP.out]; simp
  rw [HP.out] at hjm
  have hsz : W.heap.size = w.heap.size + 2 := by rw [← HWW.out]; simp
  have B0 : BoxA W w.heap.size (.slice sa sn sc) (.slice aa an ac) := by
    rw [← HWW.out]
    exact ⟨by simp [go_sem], by simp [go_sem], by simp [go_sem], by simp [go_sem], by simp; omega⟩
  have B1 : BoxA W (w.heap.size + 1) (.slice none 0 0) (.slice none 0 0) := by
    rw [← HWW.out]
    exact ⟨by simp [go_sem], by simp [go_sem], by simp [go_sem], by simp [go_sem], by simp⟩
  have HW := Lib.hid hw
  have SZ := Lib.hid hsz
  have HB1 := Lib.hid B1
  have HB0 := Lib.hid B0
  have HJ := Lib.hid hj
  have HIS := Lib.hid hIs
  clear h1 h2 hw hm hsz B1 B0 hIs hmm e1 e2 hj hj2
  go_enter Tryz.func142, Tryz.ntmps142
  go_wp2_with fail
  rw [HWW.out]
  refine M.out.mono ?_; rintro e w1 ⟨rfl, hb⟩
  obtain ⟨j0, j1, j2, j3, j4⟩ := HB0.out.below hb HB0.out.lt
  have HB' := Lib.hid hb
  clear hb
  go_wp2_with fail
  refine (T.out w1 HB'.out).mono ?_; rintro e w' ⟨rfl, hb2⟩
  have hb : Below W.heap.size W w' := HB'.out.trans (hb2.mono HB'.out.size)
  clear j0 j1 j2 j3 j4
  obtain ⟨j0, j1, j2, j3, j4⟩ := HB0.out.below hb HB0.out.lt
  obtain ⟨k0, k1, k2, k3, k4⟩ := HB1.out.below hb HB1.out.lt
  have CA := Lib.hid (fun W1 (hB : Below w'.heap.size w' W1) => clone_any (((HIS.out.shp.below hb (Nat.le_refl _)).below hB (Nat.le_refl _)).cut 1 (sn - 1) (show 1 + (sn - 1) ≤ sn by omega)))
  have HK0 := Lib.hid (HB0.out.below hb HB0.out.lt)
  have HK1 := Lib.hid (HB1.out.below hb HB1.out.lt)
  have HI := Lib.hid (HIS.out.below hb (Nat.le_refl _))
  have HB : Below w.heap.size w w' := HW.out.trans (hb.mono (by have := SZ.out; omega))
  have HBB := Lib.hid HB
  have HSW : Hid (w.heap.size + 2 ≤ w'.heap.size) := by show _ ≤ _; have h1 := SZ.out; have h2 := hb.size; omega
  have HTL : Hid (s.tail = (s.drop 1).take (sn - 1)) := by
    show _ = _
    first | rfl | (rw [List.eq_nil_of_length_eq_zero hl1]; rfl) | (rw [List.drop_one, List.take_of_length_le]; simp [hl1]) | (exact List.eq_nil_of_length_eq_zero (by simp [hl1]))
  clear HB hb hb2
  go_wp2_with fail
  rcases (show p = ac ∨ p < ac by omega) with hpc | hpc
  · obtain rfl : m' = 0 := by omega
    have hp0 : p = 0 := by rw [← HP.out]; simp
    obtain rfl : ac = 0 := by omega
    subst hp0
    have CB := Lib.hid (fun W1 (hB : Below w'.heap.size w' W1) => clone6_any (Ls.zero W1 aa (Nat.zero_le _ : 0 ≤ maxLen)))
    have z5 : IntKind.i64.wrap (0 : Int) = 0 := IntWalk.i64_in _ (by omega)
    have HIA : Hid (itemA a j 0 = []) := by show _ = _; simp [itemA]
    clear hmul hpc
    go_region_held3 (fun w'' => w''.cell? ⟨w.heap.size, 1, none⟩ = some (.slice aa an 0)) (go_keep)
      (first
        | (go_at_call 131; refine (CA.out _ ?_).mono ?_; (exact (Below.refl _ _).drew); rintro e w2 ⟨ao1, c1, rfl, hL1, hO1, hB0⟩; have hB1 : Below w'.heap.size w' w2 := ((Below.refl _ _).drew).trans hB0; have r1 := (hB1.cell (p := ⟨w.heap.size, 1, none⟩) HK0.out.lt).trans HK0.out.c1)
        | (go_at_call 128; refine (CB.out _ ?_).mono ?_; (exact hB1); rintro e w3 ⟨ao2, c2, rfl, hL2, hO2, hB2⟩; have r2 := ((HK0.out.below hB1 HK0.out.lt).below hB2 (Nat.lt_of_lt_of_le HK0.out.lt hB1.size)).c1; obtain ⟨q0, q1, q2, q3, q4⟩ := (HK1.out.below hB1 HK1.out.lt).below hB2 (Nat.lt_of_lt_of_le HK1.out.lt hB1.size)))
    have HE1 := Lib.hid (made_end HBB.out HSW.out hB1 hO1 hB2 hO2 hL1 hL2 0 (.slice ao1 (sn - 1) c1) (.slice ao2 0 c2) rfl HTL.out HIA.out)
    clear hB1 hO1 hB2 hO2 hL1 hL2 hB0
    go_wp2
    exact bodyPost_ret (v := .tuple #[.agg #[.slice ao1 (sn - 1) c1, .slice ao2 0 c2], .int .i64 0]) (by simp [results, Tryz.results142, go_sem, *]) rfl HE1.out
  · have CB := Lib.hid (fun W1 (hB : Below w'.heap.size w' W1) => clone6_any ((HI.out.ats.cutA p m' hjm).below hB (Nat.le_refl _)))
    have HIA : Hid (itemA a j m' = (a.drop p).take m') := by show _ = _; rw [← HP.out]; rfl
    have z0 : ¬ ac = p := by omega
    have z1 : (0 : Int) ≤ p := by omega
    have z2 : (p : Int) ≤ p + m' := by omega
    have z3 : (p : Int) + m' ≤ ac := by omega
    have z4 : IntKind.i64.wrap ((p : Int) + m') = p + m' := IntWalk.i64_in _ (by omega)
    have z5 : ((p : Int) + m').toNat = p + m' := by omega
    have z6 : IntKind.i64.wrap ((i + n) * m') = p := by rw [hmul]; exact IntWalk.i64_in _ (by omega)
    have z7 : (p : Int) < ac := by omega
    have z8 : ¬ ac - p = 0 := by omega
    have z9 : p + m' - p = m' := by omega
    have z10 : IntKind.i64.wrap (p : Int) = p := IntWalk.i64_in _ (by omega)
    clear hmul
    go_region_held3 (fun w'' => w''.cell? ⟨w.heap.size, 1, none⟩ = some (.slice aa an ac)) (go_keep)
      (first
        | (go_at_call 131; refine (CA.out _ ?_).mono ?_; (exact (Below.refl _ _).drew); rintro e w2 ⟨ao1, c1, rfl, hL1, hO1, hB0⟩; have hB1 : Below w'.heap.size w' w2 := ((Below.refl _ _).drew).trans hB0; have r1 := (hB1.cell (p := ⟨w.heap.size, 1, none⟩) HK0.out.lt).trans HK0.out.c1)
        | (go_at_call 128; refine (CB.out _ ?_).mono ?_; (exact hB1); rintro e w3 ⟨ao2, c2, rfl, hL2, hO2, hB2⟩; have r2 := ((HK0.out.below hB1 HK0.out.lt).below hB2 (Nat.lt_of_lt_of_le HK0.out.lt hB1.size)).c1; obtain ⟨q0, q1, q2, q3, q4⟩ := (HK1.out.below hB1 HK1.out.lt).below hB2 (Nat.lt_of_lt_of_le HK1.out.lt hB1.size)))
    have HE1 := Lib.hid (made_end HBB.out HSW.out hB1 hO1 hB2 hO2 hL1 hL2 0 (.slice ao1 (sn - 1) c1) (.slice ao2 m' c2) rfl HTL.out HIA.out)
    clear hB1 hO1 hB2 hO2 hL1 hL2 hB0
    go_wp2
    exact bodyPost_ret (v := .tuple #[.agg #[.slice ao1 (sn - 1) c1, .slice ao2 m' c2], .int .i64 0]) (by simp [results, Tryz.results142, go_sem, *]) rfl HE1.out
set_option maxRecDepth 100000 in
set_option maxHeartbeats 800000 in
theorem item_ok2 {w : World} {A : Ar} (hA : A.Is w) (i : Int) (hm : amE A.s A.a = 0) (hi1 : -(itE A.s A.a) ≤ i) (hi2 : i < itE A.s A.a) (hneg : i < 0) (hemp : A.sc = 1 ∧ A.sn = 1) (j m : Nat)
    (hj : (j : Int) = if i < 0 then i + itE A.s A.a else i) (hmm : (m : Int) = pr A.s.tail) :
    Calls Tryz.prog 142 #[A.v, .int .i64 i] w (MadeE w A.s.tail (itemA A.a j m) 0) := by
  obtain ⟨sa, sn, sc, aa, an, ac, s, a⟩ := A
  obtain ⟨h1, h2⟩ := hA
  simp only [Ar.v] at *
  first | subst hemp | (obtain ⟨rfl, rfl⟩ := hemp) | (obtain ⟨he1, he2⟩ := hemp)
  have hc1 := h1.cap
  have hc2 := h2.cap
  have hc3 := h1.top
  have hc4 := h2.top
  have hl1 := h1.len
  obtain ⟨W, HWW⟩ : ∃ W, Hid ((w.alloc (.cells #[.slice sa 1 1, .slice aa an ac] 38)).alloc (.cells #[.slice none 0 0, .slice none 0 0] 38) = W) := ⟨_, rfl⟩
  have hw : Below w.heap.size w W := by rw [← HWW.out]; exact below_box2 _ _ _ _ _
  have hIs : Ar.Is ⟨sa, 1, 1, aa, an, ac, s, a⟩ W := ⟨h1.below hw (Nat.le_refl _), h2.below hw (Nat.le_refl _)⟩
  have M := Lib.hid (arrmay_any hIs)
  have T := Lib.hid (fun (w1 : World) (hb : Below W.heap.size W w1) => items_any (hIs.below hb (Nat.le_refl _)))
  simp only [Ar.v, hm] at M T
  have hbd := itE_bd hm
  have hn1 : 1 ≤ itE s a := by omega
  obtain ⟨m', e1, e2, e3⟩ := item_part hm hn1
  obtain rfl : m' = m := by rw [← hmm] at e2; omega
  obtain ⟨n, HN⟩ : ∃ n, Hid (itE s a = n) := ⟨_, rfl⟩
  rw [HN.out] at T hi1 hi2 hbd hj hn1 e1 e3
  rw [h2.len] at e1 e3
  obtain ⟨hbd1, hbd2⟩ := hbd
  have hj2 : (j : Int) < n := by split at hj <;> omega
  have hjm : j * m' + m' ≤ an := by
    have q1 : (j : Int) + 1 ≤ n := by omega
    have q2 : ((j : Int) + 1) * m' ≤ n * m' := Int.mul_le_mul_of_nonneg_right q1 (by omega)
    rw [← e1, Int.add_mul, Int.one_mul] at q2
    omega
  have han : (an : Int) ≤ 4096 := by
    obtain ⟨q1, q2⟩ := amE_zero hm
    obtain ⟨g1, g2, g3⟩ := mayE_zero q1
    have q3 := pr_le s g1 s.length
    rw [List.take_length] at q3
    have := h2.len
    omega
  obtain ⟨p, HP⟩ : ∃ p, Hid (j * m' = p) := ⟨_, rfl⟩
  have hmul : (i + n) * (m' : Int) = (p : Int) := by
    have : (i + n) = (j : Int) := by rw [hj]; split <;> first | rfl | omega
    rw [this, ← HP.out]; simp
  rw [HP.out] at hjm
  have hsz : W.heap.size = w.heap.size + 2 := by rw [← HWW.out]; simp
  have B0 : BoxA W w.heap.size (.slice sa 1 1) (.slice aa an ac) := by
    rw [← HWW.out]
    exact ⟨by simp [go_sem], by simp [go_sem], by simp [go_sem], by simp [go_sem], by simp; omega⟩
  have B1 : BoxA W (w.heap.size + 1) (.slice none 0 0) (.slice none 0 0) := by
    rw [← HWW.out]
    exact ⟨by simp [go_sem], by simp [go_sem], by simp [go_sem], by simp [go_sem], by simp⟩
  have HW := Lib.hid hw
  have SZ := Lib.hid hsz
  have HB1 := Lib.hid B1
  have HB0 := Lib.hid B0
  have HJ := Lib.hid hj
  have HIS := Lib.hid hIs
  clear h1 h2 hw hm hsz B1 B0 hIs hmm e1 e2 hj hj2
  go_enter Tryz.func142, Tryz.ntmps142
  go_wp2_with fail
  rw [HWW.out]
  refine M.out.mono ?_; rintro e w1 ⟨rfl, hb⟩
  obtain ⟨j0, j1, j2, j3, j4⟩ := HB0.out.below hb HB0.out.lt
  have HB' := Lib.hid hb
  clear hb
  go_wp2_with fail
  refine (T.out w1 HB'.out).mono ?_; rintro e w' ⟨rfl, hb2⟩
  have hb : Below W.heap.size W w' := HB'.out.trans (hb2.mono HB'.out.size)
  clear j0 j1 j2 j3 j4
  obtain ⟨j0, j1, j2, j3, j4⟩ := HB0.out.below hb HB0.out.lt
  obtain ⟨k0, k1, k2, k3, k4⟩ := HB1.out.below hb HB1.out.lt
  have CA := Lib.hid (fun W1 (hB : Below w'.heap.size w' W1) => clone_any (Ls.zero W1 sa (Nat.zero_le _ : 0 ≤ maxLen)))
  have HK0 := Lib.hid (HB0.out.below hb HB0.out.lt)
  have HK1 := Lib.hid (HB1.out.below hb HB1.out.lt)
  have HI := Lib.hid (HIS.out.below hb (Nat.le_refl _))
  have HB : Below w.heap.size w w' := HW.out.trans (hb.mono (by have := SZ.out; omega))
  have HBB := Lib.hid HB
  have HSW : Hid (w.heap.size + 2 ≤ w'.heap.size) := by show _ ≤ _; have h1 := SZ.out; have h2 := hb.size; omega
  have HTL : Hid (s.tail = ([] : List Int)) := by
    show _ = _
    first | rfl | (rw [List.eq_nil_of_length_eq_zero hl1]; rfl) | (rw [List.drop_one, List.take_of_length_le]; simp [hl1]) | (exact List.eq_nil_of_length_eq_zero (by simp [hl1]))
  clear HB hb hb2
  go_wp2_with fail
  rcases (show p = ac ∨ p < ac by omega) with hpc | hpc
  · obtain rfl : m' = 0 := by omega
    have hp0 : p = 0 := by rw [← HP.out]; simp
    obtain rfl : ac = 0 := by omega
    subst hp0
    have CB := Lib.hid (fun W1 (hB : Below w'.heap.size w' W1) => clone6_any (Ls.zero W1 aa (Nat.zero_le _ : 0 ≤ maxLen)))
    have z5 : IntKind.i64.wrap (0 : Int) = 0 := IntWalk.i64_in _ (by omega)
    have HIA : Hid (itemA a j 0 = []) := by show _ = _; simp [itemA]
    clear hmul hpc
    go_region_held3 (fun w'' => w''.cell? ⟨w.heap.size, 1, none⟩ = some (.slice aa an 0)) (go_keep)
      (first
        | (go_at_call 131; refine (CA.out _ ?_).mono ?_; (exact (Below.refl _ _).drew); rintro e w2 ⟨ao1, c1, rfl, hL1, hO1, hB0⟩; have hB1 : Below w'.heap.size w' w2 := ((Below.refl _ _).drew).trans hB0; have r1 := (hB1.cell (p := ⟨w.heap.size, 1, none⟩) HK0.out.lt).trans HK0.out.c1)
        | (go_at_call 128; refine (CB.out _ ?_).mono ?_; (exact hB1); rintro e w3 ⟨ao2, c2, rfl, hL2, hO2, hB2⟩; have r2 := ((HK0.out.below hB1 HK0.out.lt).below hB2 (Nat.lt_of_lt_of_le HK0.out.lt hB1.size)).c1; obtain ⟨q0, q1, q2, q3, q4⟩ := (HK1.out.below hB1 HK1.out.lt).below hB2 (Nat.lt_of_lt_of_le HK1.out.lt hB1.size)))
    have HE1 := Lib.hid (made_end HBB.out HSW.out hB1 hO1 hB2 hO2 hL1 hL2 0 (.slice ao1 (0) c1) (.slice ao2 0 c2) rfl HTL.out HIA.out)
    clear hB1 hO1 hB2 hO2 hL1 hL2 hB0
    go_wp2
    exact bodyPost_ret (v := .tuple #[.agg #[.slice ao1 (0) c1, .slice ao2 0 c2], .int .i64 0]) (by simp [results, Tryz.results142, go_sem, *]) rfl HE1.out
  · have CB := Lib.hid (fun W1 (hB : Below w'.heap.size w' W1) => clone6_any ((HI.out.ats.cutA p m' hjm).below hB (Nat.le_refl _)))
    have HIA : Hid (itemA a j m' = (a.drop p).take m') := by show _ = _; rw [← HP.out]; rfl
    have z0 : ¬ ac = p := by omega
    have z1 : (0 : Int) ≤ p := by omega
    have z2 : (p : Int) ≤ p + m' := by omega
    have z3 : (p : Int) + m' ≤ ac := by omega
    have z4 : IntKind.i64.wrap ((p : Int) + m') = p + m' := IntWalk.i64_in _ (by omega)
    have z5 : ((p : Int) + m').toNat = p + m' := by omega
    have z6 : IntKind.i64.wrap ((i + n) * m') = p := by rw [hmul]; exact IntWalk.i64_in _ (by omega)
    have z7 : (p : Int) < ac := by omega
    have z8 : ¬ ac - p = 0 := by omega
    have z9 : p + m' - p = m' := by omega
    have z10 : IntKind.i64.wrap (p : Int) = p := IntWalk.i64_in _ (by omega)
    clear hmul
    go_region_held3 (fun w'' => w''.cell? ⟨w.heap.size, 1, none⟩ = some (.slice aa an ac)) (go_keep)
      (first
        | (go_at_call 131; refine (CA.out _ ?_).mono ?_; (exact (Below.refl _ _).drew); rintro e w2 ⟨ao1, c1, rfl, hL1, hO1, hB0⟩; have hB1 : Below w'.heap.size w' w2 := ((Below.refl _ _).drew).trans hB0; have r1 := (hB1.cell (p := ⟨w.heap.size, 1, none⟩) HK0.out.lt).trans HK0.out.c1)
        | (go_at_call 128; refine (CB.out _ ?_).mono ?_; (exact hB1); rintro e w3 ⟨ao2, c2, rfl, hL2, hO2, hB2⟩; have r2 := ((HK0.out.below hB1 HK0.out.lt).below hB2 (Nat.lt_of_lt_of_le HK0.out.lt hB1.size)).c1; obtain ⟨q0, q1, q2, q3, q4⟩ := (HK1.out.below hB1 HK1.out.lt).below hB2 (Nat.lt_of_lt_of_le HK1.out.lt hB1.size)))
    have HE1 := Lib.hid (made_end HBB.out HSW.out hB1 hO1 hB2 hO2 hL1 hL2 0 (.slice ao1 (0) c1) (.slice ao2 m' c2) rfl HTL.out HIA.out)
    clear hB1 hO1 hB2 hO2 hL1 hL2 hB0
    go_wp2
    exact bodyPost_ret (v := .tuple #[.agg #[.slice ao1 (0) c1, .slice ao2 m' c2], .int .i64 0]) (by simp [results, Tryz.results142, go_sem, *]) rfl HE1.out
set_option maxRecDepth 100000 in
set_option maxHeartbeats 800000 in
theorem item_ok3 {w : World} {A : Ar} (hA : A.Is w) (i : Int) (hm : amE A.s A.a = 0) (hi1 : -(itE A.s A.a) ≤ i) (hi2 : i < itE A.s A.a) (hneg : ¬ i < 0) (hemp : A.sn = 0) (j m : Nat)
    (hj : (j : Int) = if i < 0 then i + itE A.s A.a else i) (hmm : (m : Int) = pr A.s.tail) :
    Calls Tryz.prog 142 #[A.v, .int .i64 i] w (MadeE w A.s.tail (itemA A.a j m) 0) := by
  obtain ⟨sa, sn, sc, aa, an, ac, s, a⟩ := A
  obtain ⟨h1, h2⟩ := hA
  simp only [Ar.v] at *
  first | subst hemp | (obtain ⟨rfl, rfl⟩ := hemp) | (obtain ⟨he1, he2⟩ := hemp)
  have hc1 := h1.cap
  have hc2 := h2.cap
  have hc3 := h1.top
  have hc4 := h2.top
  have hl1 := h1.len
  obtain ⟨W, HWW⟩ : ∃ W, Hid ((w.alloc (.cells #[.slice sa 0 sc, .slice aa an ac] 38)).alloc (.cells #[.slice none 0 0, .slice none 0 0] 38) = W) := ⟨_, rfl⟩
  have hw : Below w.heap.size w W := by rw [← HWW.out]; exact below_box2 _ _ _ _ _
  have hIs : Ar.Is ⟨sa, 0, sc, aa, an, ac, s, a⟩ W := ⟨h1.below hw (Nat.le_refl _), h2.below hw (Nat.le_refl _)⟩
  have M := Lib.hid (arrmay_any hIs)
  have T := Lib.hid (fun (w1 : World) (hb : Below W.heap.size W w1) => items_any (hIs.below hb (Nat.le_refl _)))
  simp only [Ar.v, hm] at M T
  have hbd := itE_bd hm
  have hn1 : 1 ≤ itE s a := by omega
  obtain ⟨m', e1, e2, e3⟩ := item_part hm hn1
  obtain rfl : m' = m := by rw [← hmm] at e2; omega
  obtain ⟨n, HN⟩ : ∃ n, Hid (itE s a = n) := ⟨_, rfl⟩
  rw [HN.out] at T hi1 hi2 hbd hj hn1 e1 e3
  rw [h2.len] at e1 e3
  obtain ⟨hbd1, hbd2⟩ := hbd
  have hj2 : (j : Int) < n := by split at hj <;> omega
  have hjm : j * m' + m' ≤ an := by
    have q1 : (j : Int) + 1 ≤ n := by omega
    have q2 : ((j : Int) + 1) * m' ≤ n * m' := Int.mul_le_mul_of_nonneg_right q1 (by omega)
    rw [← e1, Int.add_mul, Int.one_mul] at q2
    omega
  have han : (an : Int) ≤ 4096 := by
    obtain ⟨q1, q2⟩ := amE_zero hm
    obtain ⟨g1, g2, g3⟩ := mayE_zero q1
    have q3 := pr_le s g1 s.length
    rw [List.take_length] at q3
    have := h2.len
    omega
  obtain ⟨p, HP⟩ : ∃ p, Hid (j * m' = p) := ⟨_, rfl⟩
  have hmul : (i) * (m' : Int) = (p : Int) := by
    have : (i) = (j : Int) := by rw [hj]; split <;> first | rfl | omega
    rw [this, ← HP.out]; simp
  rw [HP.out] at hjm
  have hsz : W.heap.size = w.heap.size + 2 := by rw [← HWW.out]; simp
  have B0 : BoxA W w.heap.size (.slice sa 0 sc) (.slice aa an ac) := by
    rw [← HWW.out]
    exact ⟨by simp [go_sem], by simp [go_sem], by simp [go_sem], by simp [go_sem], by simp; omega⟩
  have B1 : BoxA W (w.heap.size + 1) (.slice none 0 0) (.slice none 0 0) := by
    rw [← HWW.out]
    exact ⟨by simp [go_sem], by simp [go_sem], by simp [go_sem], by simp [go_sem], by simp⟩
  have HW := Lib.hid hw
  have SZ := Lib.hid hsz
  have HB1 := Lib.hid B1
  have HB0 := Lib.hid B0
  have HJ := Lib.hid hj
  have HIS := Lib.hid hIs
  clear h1 h2 hw hm hsz B1 B0 hIs hmm e1 e2 hj hj2
  go_enter Tryz.func142, Tryz.ntmps142
  go_wp2_with fail
  rw [HWW.out]
  refine M.out.mono ?_; rintro e w1 ⟨rfl, hb⟩
  obtain ⟨j0, j1, j2, j3, j4⟩ := HB0.out.below hb HB0.out.lt
  have HB' := Lib.hid hb
  clear hb
  go_wp2_with fail
  refine (T.out w1 HB'.out).mono ?_; rintro e w' ⟨rfl, hb2⟩
  have hb : Below W.heap.size W w' := HB'.out.trans (hb2.mono HB'.out.size)
  clear j0 j1 j2 j3 j4
  obtain ⟨j0, j1, j2, j3, j4⟩ := HB0.out.below hb HB0.out.lt
  obtain ⟨k0, k1, k2, k3, k4⟩ := HB1.out.below hb HB1.out.lt
  have CA := Lib.hid (fun W1 (hB : Below w'.heap.size w' W1) => clone_any ((HIS.out.shp.below hb (Nat.le_refl _)).below hB (Nat.le_refl _)))
  have HK0 := Lib.hid (HB0.out.below hb HB0.out.lt)
  have HK1 := Lib.hid (HB1.out.below hb HB1.out.lt)
  have HI := Lib.hid (HIS.out.below hb (Nat.le_refl _))
  have HB : Below w.heap.size w w' := HW.out.trans (hb.mono (by have := SZ.out; omega))
  have HBB := Lib.hid HB
  have HSW : Hid (w.heap.size + 2 ≤ w'.heap.size) := by show _ ≤ _; have h1 := SZ.out; have h2 := hb.size; omega
  have HTL : Hid (s.tail = s) := by
    show _ = _
    first | rfl | (rw [List.eq_nil_of_length_eq_zero hl1]; rfl) | (rw [List.drop_one, List.take_of_length_le]; simp [hl1]) | (exact List.eq_nil_of_length_eq_zero (by simp [hl1]))
  clear HB hb hb2
  go_wp2_with fail
  rcases (show p = ac ∨ p < ac by omega) with hpc | hpc
  · obtain rfl : m' = 0 := by omega
    have hp0 : p = 0 := by rw [← HP.out]; simp
    obtain rfl : ac = 0 := by omega
    subst hp0
    have CB := Lib.hid (fun W1 (hB : Below w'.heap.size w' W1) => clone6_any (Ls.zero W1 aa (Nat.zero_le _ : 0 ≤ maxLen)))
    have z5 : IntKind.i64.wrap (0 : Int) = 0 := IntWalk.i64_in _ (by omega)
    have HIA : Hid (itemA a j 0 = []) := by show _ = _; simp [itemA]
    clear hmul hpc
    go_region_held3 (fun w'' => w''.cell? ⟨w.heap.size, 1, none⟩ = some (.slice aa an 0)) (go_keep)
      (first
        | (go_at_call 131; refine (CA.out _ ?_).mono ?_; (exact (Below.refl _ _).drew); rintro e w2 ⟨ao1, c1, rfl, hL1, hO1, hB0⟩; have hB1 : Below w'.heap.size w' w2 := ((Below.refl _ _).drew).trans hB0; have r1 := (hB1.cell (p := ⟨w.heap.size, 1, none⟩) HK0.out.lt).trans HK0.out.c1)
        | (go_at_call 128; refine (CB.out _ ?_).mono ?_; (exact hB1); rintro e w3 ⟨ao2, c2, rfl, hL2, hO2, hB2⟩; have r2 := ((HK0.out.below hB1 HK0.out.lt).below hB2 (Nat.lt_of_lt_of_le HK0.out.lt hB1.size)).c1; obtain ⟨q0, q1, q2, q3, q4⟩ := (HK1.out.below hB1 HK1.out.lt).below hB2 (Nat.lt_of_lt_of_le HK1.out.lt hB1.size)))
    have HE1 := Lib.hid (made_end HBB.out HSW.out hB1 hO1 hB2 hO2 hL1 hL2 0 (.slice ao1 (0) c1) (.slice ao2 0 c2) rfl HTL.out HIA.out)
    clear hB1 hO1 hB2 hO2 hL1 hL2 hB0
    go_wp2
    exact bodyPost_ret (v := .tuple #[.agg #[.slice ao1 (0) c1, .slice ao2 0 c2], .int .i64 0]) (by simp [results, Tryz.results142, go_sem, *]) rfl HE1.out
  · have CB := Lib.hid (fun W1 (hB : Below w'.heap.size w' W1) => clone6_any ((HI.out.ats.cutA p m' hjm).below hB (Nat.le_refl _)))
    have HIA : Hid (itemA a j m' = (a.drop p).take m') := by show _ = _; rw [← HP.out]; rfl
    have z0 : ¬ ac = p := by omega
    have z1 : (0 : Int) ≤ p := by omega
    have z2 : (p : Int) ≤ p + m' := by omega
    have z3 : (p : Int) + m' ≤ ac := by omega
    have z4 : IntKind.i64.wrap ((p : Int) + m') = p + m' := IntWalk.i64_in _ (by omega)
    have z5 : ((p : Int) + m').toNat = p + m' := by omega
    have z6 : IntKind.i64.wrap ((i) * m') = p := by rw [hmul]; exact IntWalk.i64_in _ (by omega)
    have z7 : (p : Int) < ac := by omega
    have z8 : ¬ ac - p = 0 := by omega
    have z9 : p + m' - p = m' := by omega
    have z10 : IntKind.i64.wrap (p : Int) = p := IntWalk.i64_in _ (by omega)
    clear hmul
    go_region_held3 (fun w'' => w''.cell? ⟨w.heap.size, 1, none⟩ = some (.slice aa an ac)) (go_keep)
      (first
        | (go_at_call 131; refine (CA.out _ ?_).mono ?_; (exact (Below.refl _ _).drew); rintro e w2 ⟨ao1, c1, rfl, hL1, hO1, hB0⟩; have hB1 : Below w'.heap.size w' w2 := ((Below.refl _ _).drew).trans hB0; have r1 := (hB1.cell (p := ⟨w.heap.size, 1, none⟩) HK0.out.lt).trans HK0.out.c1)
        | (go_at_call 128; refine (CB.out _ ?_).mono ?_; (exact hB1); rintro e w3 ⟨ao2, c2, rfl, hL2, hO2, hB2⟩; have r2 := ((HK0.out.below hB1 HK0.out.lt).below hB2 (Nat.lt_of_lt_of_le HK0.out.lt hB1.size)).c1; obtain ⟨q0, q1, q2, q3, q4⟩ := (HK1.out.below hB1 HK1.out.lt).below hB2 (Nat.lt_of_lt_of_le HK1.out.lt hB1.size)))
    have HE1 := Lib.hid (made_end HBB.out HSW.out hB1 hO1 hB2 hO2 hL1 hL2 0 (.slice ao1 (0) c1) (.slice ao2 m' c2) rfl HTL.out HIA.out)
    clear hB1 hO1 hB2 hO2 hL1 hL2 hB0
    go_wp2
    exact bodyPost_ret (v := .tuple #[.agg #[.slice ao1 (0) c1, .slice ao2 m' c2], .int .i64 0]) (by simp [results, Tryz.results142, go_sem, *]) rfl HE1.out
set_option maxRecDepth 100000 in
set_option maxHeartbeats 800000 in
theorem item_ok4 {w : World} {A : Ar} (hA : A.Is w) (i : Int) (hm : amE A.s A.a = 0) (hi1 : -(itE A.s A.a) ≤ i) (hi2 : i < itE A.s A.a) (hneg : ¬ i < 0) (hemp : 1 < A.sc ∧ 0 < A.sn) (j m : Nat)
    (hj : (j : Int) = if i < 0 then i + itE A.s A.a else i) (hmm : (m : Int) = pr A.s.tail) :
    Calls Tryz.prog 142 #[A.v, .int .i64 i] w (MadeE w A.s.tail (itemA A.a j m) 0) := by
  obtain ⟨sa, sn, sc, aa, an, ac, s, a⟩ := A
  obtain ⟨h1, h2⟩ := hA
  simp only [Ar.v] at *
  first | subst hemp | (obtain ⟨rfl, rfl⟩ := hemp) | (obtain ⟨he1, he2⟩ := hemp)
  have hc1 := h1.cap
  have hc2 := h2.cap
  have hc3 := h1.top
  have hc4 := h2.top
  have hl1 := h1.len
  obtain ⟨W, HWW⟩ : ∃ W, Hid ((w.alloc (.cells #[.slice sa sn sc, .slice aa an ac] 38)).alloc (.cells #[.slice none 0 0, .slice none 0 0] 38) = W) := ⟨_, rfl⟩
  have hw : Below w.heap.size w W := by rw [← HWW.out]; exact below_box2 _ _ _ _ _
  have hIs : Ar.Is ⟨sa, sn, sc, aa, an, ac, s, a⟩ W := ⟨h1.below hw (Nat.le_refl _), h2.below hw (Nat.le_refl _)⟩
  have M := Lib.hid (arrmay_any hIs)
  have T := Lib.hid (fun (w1 : World) (hb : Below W.heap.size W w1) => items_any (hIs.below hb (Nat.le_refl _)))
  simp only [Ar.v, hm] at M T
  have hbd := itE_bd hm
  have hn1 : 1 ≤ itE s a := by omega
  obtain ⟨m', e1, e2, e3⟩ := item_part hm hn1
  obtain rfl : m' = m := by rw [← hmm] at e2; omega
  obtain ⟨n, HN⟩ : ∃ n, Hid (itE s a = n) := ⟨_, rfl⟩
  rw [HN.out] at T hi1 hi2 hbd hj hn1 e1 e3
  rw [h2.len] at e1 e3
  obtain ⟨hbd1, hbd2⟩ := hbd
  have hj2 : (j : Int) < n := by split at hj <;> omega
  have hjm : j * m' + m' ≤ an := by
    have q1 : (j : Int) + 1 ≤ n := by omega
    have q2 : ((j : Int) + 1) * m' ≤ n * m' := Int.mul_le_mul_of_nonneg_right q1 (by omega)
    rw [← e1, Int.add_mul, Int.one_mul] at q2
    omega
  have han : (an : Int) ≤ 4096 := by
    obtain ⟨q1, q2⟩ := amE_zero hm
    obtain ⟨g1, g2, g3⟩ := mayE_zero q1
    have q3 := pr_le s g1 s.length
    rw [List.take_length] at q3
    have := h2.len
    omega
  obtain ⟨p, HP⟩ : ∃ p, Hid (j * m' = p) := ⟨_, rfl⟩
  have hmul : (i) * (m' : Int) = (p : Int) := by
    have : (i) = (j : Int) := by rw [hj]; split <;> first | rfl | omega
    rw [this, ← HP.out]; simp
  rw [HP.out] at hjm
  have hsz : W.heap.size = w.heap.size + 2 := by rw [← HWW.out]; simp
  have B0 : BoxA W w.heap.size (.slice sa sn sc) (.slice aa an ac) := by
    rw [← HWW.out]
    exact ⟨by simp [go_sem], by simp [go_sem], by simp [go_sem], by simp [go_sem], by simp; omega⟩
  have B1 : BoxA W (w.heap.size + 1) (.slice none 0 0) (.slice none 0 0) := by
    rw [← HWW.out]
    exact ⟨by simp [go_sem], by simp [go_sem], by simp [go_sem], by simp [go_sem], by simp⟩
  have HW := Lib.hid hw
  have SZ := Lib.hid hsz
  have HB1 := Lib.hid B1
  have HB0 := Lib.hid B0
  have HJ := Lib.hid hj
  have HIS := Lib.hid hIs
  clear h1 h2 hw hm hsz B1 B0 hIs hmm e1 e2 hj hj2
  go_enter Tryz.func142, Tryz.ntmps142
  go_wp2_with fail
  rw [HWW.out]
  refine M.out.mono ?_; rintro e w1 ⟨rfl, hb⟩
  obtain ⟨j0, j1, j2, j3, j4⟩ := HB0.out.below hb HB0.out.lt
  have HB' := Lib.hid hb
  clear hb
  go_wp2_with fail
  refine (T.out w1 HB'.out).mono ?_; rintro e w' ⟨rfl, hb2⟩
  have hb : Below W.heap.size W w' := HB'.out.trans (hb2.mono HB'.out.size)
  clear j0 j1 j2 j3 j4
  obtain ⟨j0, j1, j2, j3, j4⟩ := HB0.out.below hb HB0.out.lt
  obtain ⟨k0, k1, k2, k3, k4⟩ := HB1.out.below hb HB1.out.lt
  have CA := Lib.hid (fun W1 (hB : Below w'.heap.size w' W1) => clone_any (((HIS.out.shp.below hb (Nat.le_refl _)).below hB (Nat.le_refl _)).cut 1 (sn - 1) (show 1 + (sn - 1) ≤ sn by omega)))
  have HK0 := Lib.hid (HB0.out.below hb HB0.out.lt)
  have HK1 := Lib.hid (HB1.out.below hb HB1.out.lt)
  have HI := Lib.hid (HIS.out.below hb (Nat.le_refl _))
  have HB : Below w.heap.size w w' := HW.out.trans (hb.mono (by have := SZ.out; omega))
  have HBB := Lib.hid HB
  have HSW : Hid (w.heap.size + 2 ≤ w'.heap.size) := by show _ ≤ _; have h1 := SZ.out; have h2 := hb.size; omega
  have HTL : Hid (s.tail = (s.drop 1).take (sn - 1)) := by
    show _ = _
    first | rfl | (rw [List.eq_nil_of_length_eq_zero hl1]; rfl) | (rw [List.drop_one, List.take_of_length_le]; simp [hl1]) | (exact List.eq_nil_of_length_eq_zero (by simp [hl1]))
  clear HB hb hb2
  go_wp2_with fail
  rcases (show p = ac ∨ p < ac by omega) with hpc | hpc
  · obtain rfl : m' = 0 := by omega
    have hp0 : p = 0 := by rw [← HP.out]; simp
    obtain rfl : ac = 0 := by omega
    subst hp0
    have CB := Lib.hid (fun W1 (hB : Below w'.heap.size w' W1) => clone6_any (Ls.zero W1 aa (Nat.zero_le _ : 0 ≤ maxLen)))
    have z5 : IntKind.i64.wrap (0 : Int) = 0 := IntWalk.i64_in _ (by omega)
    have HIA : Hid (itemA a j 0 = []) := by show _ = _; simp [itemA]
    clear hmul hpc
    go_region_held3 (fun w'' => w''.cell? ⟨w.heap.size, 1, none⟩ = some (.slice aa an 0)) (go_keep)
      (first
        | (go_at_call 131; refine (CA.out _ ?_).mono ?_; (exact (Below.refl _ _).drew); rintro e w2 ⟨ao1, c1, rfl, hL1, hO1, hB0⟩; have hB1 : Below w'.heap.size w' w2 := ((Below.refl _ _).drew).trans hB0; have r1 := (hB1.cell (p := ⟨w.heap.size, 1, none⟩) HK0.out.lt).trans HK0.out.c1)
        | (go_at_call 128; refine (CB.out _ ?_).mono ?_; (exact hB1); rintro e w3 ⟨ao2, c2, rfl, hL2, hO2, hB2⟩; have r2 := ((HK0.out.below hB1 HK0.out.lt).below hB2 (Nat.lt_of_lt_of_le HK0.out.lt hB1.size)).c1; obtain ⟨q0, q1, q2, q3, q4⟩ := (HK1.out.below hB1 HK1.out.lt).below hB2 (Nat.lt_of_lt_of_le HK1.out.lt hB1.size)))
    have HE1 := Lib.hid (made_end HBB.out HSW.out hB1 hO1 hB2 hO2 hL1 hL2 0 (.slice ao1 (sn - 1) c1) (.slice ao2 0 c2) rfl HTL.out HIA.out)
    clear hB1 hO1 hB2 hO2 hL1 hL2 hB0
    go_wp2
    exact bodyPost_ret (v := .tuple #[.agg #[.slice ao1 (sn - 1) c1, .slice ao2 0 c2], .int .i64 0]) (by simp [results, Tryz.results142, go_sem, *]) rfl HE1.out
  · have CB := Lib.hid (fun W1 (hB : Below w'.heap.size w' W1) => clone6_any ((HI.out.ats.cutA p m' hjm).below hB (Nat.le_refl _)))
    have HIA : Hid (itemA a j m' = (a.drop p).take m') := by show _ = _; rw [← HP.out]; rfl
    have z0 : ¬ ac = p := by omega
    have z1 : (0 : Int) ≤ p := by omega
    have z2 : (p : Int) ≤ p + m' := by omega
    have z3 : (p : Int) + m' ≤ ac := by omega
    have z4 : IntKind.i64.wrap ((p : Int) + m') = p + m' := IntWalk.i64_in _ (by omega)
    have z5 : ((p : Int) + m').toNat = p + m' := by omega
    have z6 : IntKind.i64.wrap ((i) * m') = p := by rw [hmul]; exact IntWalk.i64_in _ (by omega)
    have z7 : (p : Int) < ac := by omega
    have z8 : ¬ ac - p = 0 := by omega
    have z9 : p + m' - p = m' := by omega
    have z10 : IntKind.i64.wrap (p : Int) = p := IntWalk.i64_in _ (by omega)
    clear hmul
    go_region_held3 (fun w'' => w''.cell? ⟨w.heap.size, 1, none⟩ = some (.slice aa an ac)) (go_keep)
      (first
        | (go_at_call 131; refine (CA.out _ ?_).mono ?_; (exact (Below.refl _ _).drew); rintro e w2 ⟨ao1, c1, rfl, hL1, hO1, hB0⟩; have hB1 : Below w'.heap.size w' w2 := ((Below.refl _ _).drew).trans hB0; have r1 := (hB1.cell (p := ⟨w.heap.size, 1, none⟩) HK0.out.lt).trans HK0.out.c1)
        | (go_at_call 128; refine (CB.out _ ?_).mono ?_; (exact hB1); rintro e w3 ⟨ao2, c2, rfl, hL2, hO2, hB2⟩; have r2 := ((HK0.out.below hB1 HK0.out.lt).below hB2 (Nat.lt_of_lt_of_le HK0.out.lt hB1.size)).c1; obtain ⟨q0, q1, q2, q3, q4⟩ := (HK1.out.below hB1 HK1.out.lt).below hB2 (Nat.lt_of_lt_of_le HK1.out.lt hB1.size)))
    have HE1 := Lib.hid (made_end HBB.out HSW.out hB1 hO1 hB2 hO2 hL1 hL2 0 (.slice ao1 (sn - 1) c1) (.slice ao2 m' c2) rfl HTL.out HIA.out)
    clear hB1 hO1 hB2 hO2 hL1 hL2 hB0
    go_wp2
    exact bodyPost_ret (v := .tuple #[.agg #[.slice ao1 (sn - 1) c1, .slice ao2 m' c2], .int .i64 0]) (by simp [results, Tryz.results142, go_sem, *]) rfl HE1.out
set_option maxRecDepth 100000 in
set_option maxHeartbeats 800000 in
theorem item_ok5 {w : World} {A : Ar} (hA : A.Is w) (i : Int) (hm : amE A.s A.a = 0) (hi1 : -(itE A.s A.a) ≤ i) (hi2 : i < itE A.s A.a) (hneg : ¬ i < 0) (hemp : A.sc = 1 ∧ A.sn = 1) (j m : Nat)
    (hj : (j : Int) = if i < 0 then i + itE A.s A.a else i) (hmm : (m : Int) = pr A.s.tail) :
    Calls Tryz.prog 142 #[A.v, .int .i64 i] w (MadeE w A.s.tail (itemA A.a j m) 0) := by
  obtain ⟨sa, sn, sc, aa, an, ac, s, a⟩ := A
  obtain ⟨h1, h2⟩ := hA
  simp only [Ar.v] at *
  first | subst hemp | (obtain ⟨rfl, rfl⟩ := hemp) | (obtain ⟨he1, he2⟩ := hemp)
  have hc1 := h1.cap
  have hc2 := h2.cap
  have hc3 := h1.top
  have hc4 := h2.top
  have hl1 := h1.len
  obtain ⟨W, HWW⟩ : ∃ W, Hid ((w.alloc (.cells #[.slice sa 1 1, .slice aa an ac] 38)).alloc (.cells #[.slice none 0 0, .slice none 0 0] 38) = W) := ⟨_, rfl⟩
  have hw : Below w.heap.size w W := by rw [← HWW.out]; exact below_box2 _ _ _ _ _
  have hIs : Ar.Is ⟨sa, 1, 1, aa, an, ac, s, a⟩ W := ⟨h1.below hw (Nat.le_refl _), h2.below hw (Nat.le_refl _)⟩
  have M := Lib.hid (arrmay_any hIs)
  have T := Lib.hid (fun (w1 : World) (hb : Below W.heap.size W w1) => items_any (hIs.below hb (Nat.le_refl _)))
  simp only [Ar.v, hm] at M T
  have hbd := itE_bd hm
  have hn1 : 1 ≤ itE s a := by omega
  obtain ⟨m', e1, e2, e3⟩ := item_part hm hn1
  obtain rfl : m' = m := by rw [← hmm] at e2; omega
  obtain ⟨n, HN⟩ : ∃ n, Hid (itE s a = n) := ⟨_, rfl⟩
  rw [HN.out] at T hi1 hi2 hbd hj hn1 e1 e3
  rw [h2.len] at e1 e3
  obtain ⟨hbd1, hbd2⟩ := hbd
  have hj2 : (j : Int) < n := by split at hj <;> omega
  have hjm : j * m' + m' ≤ an := by
    have q1 : (j : Int) + 1 ≤ n := by omega
    have q2 : ((j : Int) + 1) * m' ≤ n * m' := Int.mul_le_mul_of_nonneg_right q1 (by omega)
    rw [← e1, Int.add_mul, Int.one_mul] at q2
    omega
  have han : (an : Int) ≤ 4096 := by
    obtain ⟨q1, q2⟩ := amE_zero hm
    obtain ⟨g1, g2, g3⟩ := mayE_zero q1
    have q3 := pr_le s g1 s.length
    rw [List.take_length] at q3
    have := h2.len
    omega
  obtain ⟨p, HP⟩ : ∃ p, Hid (j * m' = p) := ⟨_, rfl⟩
  have hmul : (i) * (m' : Int) = (p : Int) := by
    have : (i) = (j : Int) := by rw [hj]; split <;> first | rfl | omega
    rw [this, ← HP.out]; simp
  rw [HP.out] at hjm
  have hsz : W.heap.size = w.heap.size + 2 := by rw [← HWW.out]; simp
  have B0 : BoxA W w.heap.size (.slice sa 1 1) (.slice aa an ac) := by
    rw [← HWW.out]
    exact ⟨by simp [go_sem], by simp [go_sem], by simp [go_sem], by simp [go_sem], by simp; omega⟩
  have B1 : BoxA W (w.heap.size + 1) (.slice none 0 0) (.slice none 0 0) := by
    rw [← HWW.out]
    exact ⟨by simp [go_sem], by simp [go_sem], by simp [go_sem], by simp [go_sem], by simp⟩
  have HW := Lib.hid hw
  have SZ := Lib.hid hsz
  have HB1 := Lib.hid B1
  have HB0 := Lib.hid B0
  have HJ := Lib.hid hj
  have HIS := Lib.hid hIs
  clear h1 h2 hw hm hsz B1 B0 hIs hmm e1 e2 hj hj2
  go_enter Tryz.func142, Tryz.ntmps142
  go_wp2_with fail
  rw [HWW.out]
  refine M.out.mono ?_; rintro e w1 ⟨rfl, hb⟩
  obtain ⟨j0, j1, j2, j3, j4⟩ := HB0.out.below hb HB0.out.lt
  have HB' := Lib.hid hb
  clear hb
  go_wp2_with fail
  refine (T.out w1 HB'.out).mono ?_; rintro e w' ⟨rfl, hb2⟩
  have hb : Below W.heap.size W w' := HB'.out.trans (hb2.mono HB'.out.size)
  clear j0 j1 j2 j3 j4
  obtain ⟨j0, j1, j2, j3, j4⟩ := HB0.out.below hb HB0.out.lt
  obtain ⟨k0, k1, k2, k3, k4⟩ := HB1.out.below hb HB1.out.lt
  have CA := Lib.hid (fun W1 (hB : Below w'.heap.size w' W1) => clone_any (Ls.zero W1 sa (Nat.zero_le _ : 0 ≤ maxLen)))
  have HK0 := Lib.hid (HB0.out.below hb HB0.out.lt)
  have HK1 := Lib.hid (HB1.out.below hb HB1.out.lt)
  have HI := Lib.hid (HIS.out.below hb (Nat.le_refl _))
  have HB : Below w.heap.size w w' := HW.out.trans (hb.mono (by have := SZ.out; omega))
  have HBB := Lib.hid HB
  have HSW : Hid (w.heap.size + 2 ≤ w'.heap.size) := by show _ ≤ _; have h1 := SZ.out; have h2 := hb.size; omega
  have HTL : Hid (s.tail = ([] : List Int)) := by
    show _ = _
    first | rfl | (rw [List.eq_nil_of_length_eq_zero hl1]; rfl) | (rw [List.drop_one, List.take_of_length_le]; simp [hl1]) | (exact List.eq_nil_of_length_eq_zero (by simp [hl1]))
  clear HB hb hb2
  go_wp2_with fail
  rcases (show p = ac ∨ p < ac by omega) with hpc | hpc
  · obtain rfl : m' = 0 := by omega
    have hp0 : p = 0 := by rw [← HP.out]; simp
    obtain rfl : ac = 0 := by omega
    subst hp0
    have CB := Lib.hid (fun W1 (hB : Below w'.heap.size w' W1) => clone6_any (Ls.zero W1 aa (Nat.zero_le _ : 0 ≤ maxLen)))
    have z5 : IntKind.i64.wrap (0 : Int) = 0 := IntWalk.i64_in _ (by omega)
    have HIA : Hid (itemA a j 0 = []) := by show _ = _; simp [itemA]
    clear hmul hpc
    go_region_held3 (fun w'' => w''.cell? ⟨w.heap.size, 1, none⟩ = some (.slice aa an 0)) (go_keep)
      (first
        | (go_at_call 131; refine (CA.out _ ?_).mono ?_; (exact (Below.refl _ _).drew); rintro e w2 ⟨ao1, c1, rfl, hL1, hO1, hB0⟩; have hB1 : Below w'.heap.size w' w2 := ((Below.refl _ _).drew).trans hB0; have r1 := (hB1.cell (p := ⟨w.heap.size, 1, none⟩) HK0.out.lt).trans HK0.out.c1)
        | (go_at_call 128; refine (CB.out _ ?_).mono ?_; (exact hB1); rintro e w3 ⟨ao2, c2, rfl, hL2, hO2, hB2⟩; have r2 := ((HK0.out.below hB1 HK0.out.lt).below hB2 (Nat.lt_of_lt_of_le HK0.out.lt hB1.size)).c1; obtain ⟨q0, q1, q2, q3, q4⟩ := (HK1.out.below hB1 HK1.out.lt).below hB2 (Nat.lt_of_lt_of_le HK1.out.lt hB1.size)))
    have HE1 := Lib.hid (made_end HBB.out HSW.out hB1 hO1 hB2 hO2 hL1 hL2 0 (.slice ao1 (0) c1) (.slice ao2 0 c2) rfl HTL.out HIA.out)
    clear hB1 hO1 hB2 hO2 hL1 hL2 hB0
    go_wp2
    exact bodyPost_ret (v := .tuple #[.agg #[.slice ao1 (0) c1, .slice ao2 0 c2], .int .i64 0]) (by simp [results, Tryz.results142, go_sem, *]) rfl HE1.out
  · have CB := Lib.hid (fun W1 (hB : Below w'.heap.size w' W1) => clone6_any ((HI.out.ats.cutA p m' hjm).below hB (Nat.le_refl _)))
    have HIA : Hid (itemA a j m' = (a.drop p).take m') := by show _ = _; rw [← HP.out]; rfl
    have z0 : ¬ ac = p := by omega
    have z1 : (0 : Int) ≤ p := by omega
    have z2 : (p : Int) ≤ p + m' := by omega
    have z3 : (p : Int) + m' ≤ ac := by omega
    have z4 : IntKind.i64.wrap ((p : Int) + m') = p + m' := IntWalk.i64_in _ (by omega)
    have z5 : ((p : Int) + m').toNat = p + m' := by omega
    have z6 : IntKind.i64.wrap ((i) * m') = p := by rw [hmul]; exact IntWalk.i64_in _ (by omega)
    have z7 : (p : Int) < ac := by omega
    have z8 : ¬ ac - p = 0 := by omega
    have z9 : p + m' - p = m' := by omega
    have z10 : IntKind.i64.wrap (p : Int) = p := IntWalk.i64_in _ (by omega)
    clear hmul
    go_region_held3 (fun w'' => w''.cell? ⟨w.heap.size, 1, none⟩ = some (.slice aa an ac)) (go_keep)
      (first
        | (go_at_call 131; refine (CA.out _ ?_).mono ?_; (exact (Below.refl _ _).drew); rintro e w2 ⟨ao1, c1, rfl, hL1, hO1, hB0⟩; have hB1 : Below w'.heap.size w' w2 := ((Below.refl _ _).drew).trans hB0; have r1 := (hB1.cell (p := ⟨w.heap.size, 1, none⟩) HK0.out.lt).trans HK0.out.c1)
        | (go_at_call 128; refine (CB.out _ ?_).mono ?_; (exact hB1); rintro e w3 ⟨ao2, c2, rfl, hL2, hO2, hB2⟩; have r2 := ((HK0.out.below hB1 HK0.out.lt).below hB2 (Nat.lt_of_lt_of_le HK0.out.lt hB1.size)).c1; obtain ⟨q0, q1, q2, q3, q4⟩ := (HK1.out.below hB1 HK1.out.lt).below hB2 (Nat.lt_of_lt_of_le HK1.out.lt hB1.size)))
    have HE1 := Lib.hid (made_end HBB.out HSW.out hB1 hO1 hB2 hO2 hL1 hL2 0 (.slice ao1 (0) c1) (.slice ao2 m' c2) rfl HTL.out HIA.out)
    clear hB1 hO1 hB2 hO2 hL1 hL2 hB0
    go_wp2
    exact bodyPost_ret (v := .tuple #[.agg #[.slice ao1 (0) c1, .slice ao2 m' c2], .int .i64 0]) (by simp [results, Tryz.results142, go_sem, *]) rfl HE1.out
end Go.Proofs.YthackmkdicpdeaaGreat
namespace Go.Proofs.YthackmkdicpdeaaGreat
open Go.RowKit Go.Lib
set_option linter.unusedVariables false
set_option linter.unusedSimpArgs false
attribute [local go_sem] alloc_drewN setCell_drewN

/-- The place of an item, counted from the front. -/
def itJ (i n : Int) : Nat := (if i < 0 then i + n else i).toNat
theorem item_any {w : World} {A : Ar} (hA : A.Is w) (i : Int) (hm : amE A.s A.a = 0) (hi1 : -(itE A.s A.a) ≤ i) (hi2 : i < itE A.s A.a) :
    Calls Tryz.prog 142 #[A.v, .int .i64 i] w (MadeE w A.s.tail (itemA A.a (itJ i (itE A.s A.a)) (pr A.s.tail).toNat) 0) := by
  have hn1 : 1 ≤ itE A.s A.a := by omega
  obtain ⟨m, e1, e2, e3⟩ := item_part hm hn1
  have hj : ((itJ i (itE A.s A.a) : Nat) : Int) = if i < 0 then i + itE A.s A.a else i := by
    unfold itJ; split <;> omega
  have hmm : (((pr A.s.tail).toNat : Nat) : Int) = pr A.s.tail := by omega
  have hc := hA.shp.cap
  by_cases hneg : i < 0
  · by_cases h0 : A.sn = 0
    · exact item_ok0 hA i hm hi1 hi2 hneg h0 _ _ hj hmm
    · by_cases h1 : 1 < A.sc
      · exact item_ok1 hA i hm hi1 hi2 hneg ⟨h1, by omega⟩ _ _ hj hmm
      · exact item_ok2 hA i hm hi1 hi2 hneg ⟨by omega, by omega⟩ _ _ hj hmm
  · by_cases h0 : A.sn = 0
    · exact item_ok3 hA i hm hi1 hi2 hneg h0 _ _ hj hmm
    · by_cases h1 : 1 < A.sc
      · exact item_ok4 hA i hm hi1 hi2 hneg ⟨h1, by omega⟩ _ _ hj hmm
      · exact item_ok5 hA i hm hi1 hi2 hneg ⟨by omega, by omega⟩ _ _ hj hmm
theorem made_mk {w w' : World} {ao1 ao2 : Option Addr} {n1 c1 n2 c2 : Nat} {s a : List Int} (err : Int) (hB : Below w.heap.size w w')
    (O1 : w'.ownsRow w.heap.size 3 1 (.slice ao1 n1 c1) n1 (s.map (Value.int .i64))) (O2 : w'.ownsRow w.heap.size 2 1 (.slice ao2 n2 c2) n2 (a.map (Value.int .i64)))
    (h2 : ∀ g, (Value.slice ao1 n1 c1).ownBlock = some g → (Value.slice ao2 n2 c2).ownBlock ≠ some g)
    (b1 : n1 * 8 ≤ 140737488351232) (b2 : n2 * 8 ≤ 140737488351232) (r1 : ∀ i, -9223372036854775808 ≤ s.getD i 0 ∧ s.getD i 0 ≤ 9223372036854775807) (r2 : ∀ i, -9223372036854775808 ≤ a.getD i 0 ∧ a.getD i 0 ≤ 9223372036854775807) :
    MadeE w s a err (.returned (.tuple #[.agg #[.slice ao1 n1 c1, .slice ao2 n2 c2], .int .i64 err])) w' :=
  ⟨⟨ao1, n1, c1, ao2, n2, c2, s, a⟩, rfl, ⟨ls_of_own O1 b1 r1, ls_of_own O2 b2 r2⟩, rfl, rfl, ⟨O1, O2, h2⟩, hB⟩
theorem rng_one {n : Int} (h : -9223372036854775808 ≤ n ∧ n ≤ 9223372036854775807) : ∀ i, -9223372036854775808 ≤ [n].getD i 0 ∧ [n].getD i 0 ≤ 9223372036854775807 := by
  intro i; cases i with
  | zero => exact h
  | succ k => simp [List.getD]
/-- The call hands back an array of its own. -/
def MadeA (w : World) (s a : List Int) (e : Ending) (w' : World) : Prop :=
  ∃ B : Ar, e = .returned B.v ∧ B.Is w' ∧ B.s = s ∧ B.a = a ∧ B.Own w' w.heap.size ∧ Below w.heap.size w w'
set_option maxHeartbeats 400000 in
theorem scalar_any (n : Int) (w : World) (hn : -9223372036854775808 ≤ n ∧ n ≤ 9223372036854775807) :
    Calls Tryz.prog 92 #[.int .i64 n] w (MadeA w [] [n]) := by
  have HE : Hid (MadeA w [] [n] (.returned (.agg #[.slice none 0 0, .slice (some ⟨w.heap.size + 1, 0, none⟩) 1 1])) ((w.alloc (.cells #[.slice none 0 0, .slice (some ⟨w.heap.size + 1, 0, none⟩) 1 1] 38)).alloc (.cells #[.int .i64 n] 2))) := by
    have h := World.ownsRow_lit (base := w.heap.size) (e := 2) (size := 1) (w.alloc (.cells #[.slice none 0 0, .slice (some ⟨w.heap.size + 1, 0, none⟩) 1 1] 38)) #[.int .i64 n] 1 (by simp) (by simp [maxLen]) rfl
    have h' : World.ownsRow ((w.alloc (.cells #[.slice none 0 0, .slice (some ⟨w.heap.size + 1, 0, none⟩) 1 1] 38)).alloc (.cells #[.int .i64 n] 2)) w.heap.size 2 1 (.slice (some ⟨w.heap.size + 1, 0, none⟩) 1 1) 1 ([n].map (Value.int .i64)) := by simpa using h
    exact ⟨⟨none, 0, 0, some ⟨w.heap.size + 1, 0, none⟩, 1, 1, [], [n]⟩, rfl, ⟨Ls.zero _ _ (Nat.zero_le _), ls_of_own h' (show 1 * 8 ≤ 140737488351232 by omega) (rng_one hn)⟩, rfl, rfl, ⟨World.ownsRow_nil _ _ _ _, h', fun g h => by simp [Value.ownBlock] at h⟩, below_box2 _ _ _ _ _⟩
  clear hn
  go_enter Tryz.func92, Tryz.ntmps92
  go_wp2
  exact bodyPost_ret (v := .agg #[.slice none 0 0, .slice (some ⟨w.heap.size + 1, 0, none⟩) 1 1]) (by simp [results, Tryz.results92, go_sem, *]) rfl HE.out
set_option maxHeartbeats 400000 in
theorem list_big {w : World} {ao : Option Addr} {n c : Nat} {zs : List Int} (h : Ls w ao n c zs) (hb : 4096 < n) :
    Calls Tryz.prog 97 #[.slice ao n c] w (MadeE w [] [] 17) := by
  have hb' : (4096 : Int) < n := by omega
  have g1 := h.big
  clear h hb
  go_enter Tryz.func97, Tryz.ntmps97
  go_wp2
  exact bodyPost_ret (v := .tuple #[.agg #[.slice none 0 0, .slice none 0 0], .int .i64 17]) (by simp [results, Tryz.results97, go_sem, *]) rfl ⟨⟨none, 0, 0, none, 0, 0, [], []⟩, rfl, Ar.is_nil _, rfl, rfl, Ar.own_nil _ _, (Below.refl _ _).alloc (Nat.le_refl _) _⟩
set_option maxHeartbeats 800000 in
theorem list_ok {w : World} {ao : Option Addr} {n c : Nat} {zs : List Int} (h : Ls w ao n c zs) (hb : n ≤ 4096) :
    Calls Tryz.prog 97 #[.slice ao n c] w (MadeE w [(n : Int)] zs 0) := by
  have hb' : ¬ (4096 : Int) < n := by omega
  have hb2 : (n : Int) ≤ 4096 := by omega
  obtain ⟨W, HWW⟩ : ∃ W, Hid ((w.alloc (.cells #[.slice none 0 0, .slice none 0 0] 38)).alloc (.cells #[.int .i64 n] 3) = W) := ⟨_, rfl⟩
  have hw : Below w.heap.size w W := by rw [← HWW.out]; exact below_box2 _ _ _ _ _
  have hsz : W.heap.size = w.heap.size + 2 := by rw [← HWW.out]; simp
  have hO : W.ownsRow (w.heap.size + 1) 3 1 (.slice (some ⟨w.heap.size + 1, 0, none⟩) 1 1) 1 ([(n : Int)].map (Value.int .i64)) := by
    rw [← HWW.out]
    have h := World.ownsRow_lit (base := (w.alloc (.cells #[.slice none 0 0, .slice none 0 0] 38)).heap.size) (e := 3) (size := 1) (w.alloc (.cells #[.slice none 0 0, .slice none 0 0] 38)) #[.int .i64 n] 1 (Nat.le_refl _) (by simp [maxLen]) rfl
    simpa using h
  have B0 : BoxA W w.heap.size (.slice none 0 0) (.slice none 0 0) := by
    rw [← HWW.out]
    exact ⟨by simp [go_sem], by simp [go_sem], by simp [go_sem], by simp [go_sem], by simp; omega⟩
  have C := Lib.hid (clone6_any (h.below hw (Nat.le_refl _)))
  have HO := Lib.hid hO
  have HW := Lib.hid hw
  have SZ := Lib.hid hsz
  have HB0 := Lib.hid B0
  clear h hw hsz hO B0 hb
  go_enter Tryz.func97, Tryz.ntmps97
  go_wp2_with fail
  rw [HWW.out]
  refine C.out.mono ?_; rintro e w2 ⟨ao2, c2, rfl, hL2, hO2, hB2⟩
  obtain ⟨k0, k1, k2, k3, k4⟩ := HB0.out.below hB2 HB0.out.lt
  have HE : Hid (∀ u v, MadeE w [(n : Int)] zs 0 (.returned (.tuple #[.agg #[.slice (some ⟨w.heap.size + 1, 0, none⟩) 1 1, .slice ao2 n c2], .int .i64 0])) ((w2.setCell ⟨w.heap.size, 0, none⟩ u).setCell ⟨w.heap.size, 1, none⟩ v)) := by
    intro u v
    have hsz := SZ.out
    have O1 := ownsRow_setCell_below (ownsRow_setCell_below (own_below HO.out hB2 (Nat.le_refl _)) (a := ⟨w.heap.size, 0, none⟩) (by simp) u) (a := ⟨w.heap.size, 1, none⟩) (by simp) v
    have O2 := ownsRow_setCell_below (ownsRow_setCell_below hO2 (a := ⟨w.heap.size, 0, none⟩) (by show w.heap.size < _; omega) u) (a := ⟨w.heap.size, 1, none⟩) (by show w.heap.size < _; omega) v
    refine made_mk 0 (((HW.out.trans (hB2.mono (by omega))).setCell (by simp) _).setCell (by simp) _) (own_mono O1 (by omega)) (own_mono O2 (by omega)) ?_ (by omega) hL2.big (rng_one (by omega)) hL2.rng
    intro g h1 h2
    have q1 := own_block HO.out h1
    have q2 := own_block hO2 h2
    omega
  clear hL2 hO2 hB2
  go_wp2
  exact bodyPost_ret (v := .tuple #[.agg #[.slice (some ⟨w.heap.size + 1, 0, none⟩) 1 1, .slice ao2 n c2], .int .i64 0]) (by simp [results, Tryz.results97, go_sem, *]) rfl (HE.out _ _)
end Go.Proofs.YthackmkdicpdeaaGreat
namespace Go.Proofs.YthackmkdicpdeaaGreat
open Go.RowKit Go.Lib
set_option linter.unusedVariables false
set_option linter.unusedSimpArgs false
attribute [local go_sem] alloc_drewN setCell_drewN

set_option maxRecDepth 100000 in
theorem mk_int (N : Nat) (hN : N ≤ 1000000) (w : World) : (Instr.makeSlice 25 (.int .i64 (N : Int)) (.int .i64 (N : Int))).run Tryz.prog w = .ok (.slice (some ⟨w.heap.size, 0, none⟩) N N) (w.alloc (.cells (Array.replicate N (.int .i64 0)) 3)) := by
  obtain ⟨i0, hi, hz0, hz1, hz2⟩ := info_parts (P := Tryz.prog) (e := 3) (z := .int .i64 0) (size := 1) (bytes := 8) (by kernel_rfl)
  have h := run_make (P := Tryz.prog) w 25 3 i0 (.int .i64 0) Tryz.underlying25 hi hz0 .i64 .i64 N N (by omega) (Int.le_refl _) (by rw [hz2]; omega) (by omega)
  rw [h]
  have e : madeCells (Value.int .i64 0).cells (((N : Int).toNat) * i0.size) = Array.replicate N (.int .i64 0) := by
    rw [hz1, Nat.mul_one, Int.toNat_natCast]
    exact Array.ext' (by rw [show (Value.int .i64 0).cells = #[.int .i64 0] by rfl, toList_madeCells_one]; simp)
  rw [e]
  simp
set_option maxRecDepth 100000 in
theorem mk_int64 (N : Nat) (hN : N ≤ 1000000) (w : World) : (Instr.makeSlice 28 (.int .i64 (N : Int)) (.int .i64 (N : Int))).run Tryz.prog w = .ok (.slice (some ⟨w.heap.size, 0, none⟩) N N) (w.alloc (.cells (Array.replicate N (.int .i64 0)) 2)) := by
  obtain ⟨i0, hi, hz0, hz1, hz2⟩ := info_parts (P := Tryz.prog) (e := 2) (z := .int .i64 0) (size := 1) (bytes := 8) (by kernel_rfl)
  have h := run_make (P := Tryz.prog) w 28 2 i0 (.int .i64 0) Tryz.underlying28 hi hz0 .i64 .i64 N N (by omega) (Int.le_refl _) (by rw [hz2]; omega) (by omega)
  rw [h]
  have e : madeCells (Value.int .i64 0).cells (((N : Int).toNat) * i0.size) = Array.replicate N (.int .i64 0) := by
    rw [hz1, Nat.mul_one, Int.toNat_natCast]
    exact Array.ext' (by rw [show (Value.int .i64 0).cells = #[.int .i64 0] by rfl, toList_madeCells_one]; simp)
  rw [e]
  simp
theorem own_zeros (w : World) (E : TypeId) (N base : Nat) (hN : N ≤ 1000000) (hb : base ≤ w.heap.size) :
    (w.alloc (.cells (Array.replicate N (.int .i64 0)) E)).ownsRow base E 1 (.slice (some ⟨w.heap.size, 0, none⟩) N N) N ((List.replicate N (0 : Int)).map (Value.int .i64)) := by
  have h := World.ownsRow_lit (base := base) (e := E) (size := 1) w (Array.replicate N (Value.int .i64 0)) N hb (by unfold maxLen; omega) (by simp)
  simpa using h
set_option maxHeartbeats 400000 in
theorem fill_bad {w : World} {ao : Option Addr} {n c : Nat} {s : List Int} (h : Ls w ao n c s) (x : Int) (hm : mayE s ≠ 0) :
    Calls Tryz.prog 141 #[.slice ao n c, .int .i64 x] w (MadeE w [] [] (mayE s)) := by
  have hb : ∀ o, Below w.heap.size w (w.alloc o) := fun o => (Below.refl _ _).alloc (Nat.le_refl _) _
  have C := Lib.hid (fun o => size_any (h.below (hb o) (Nat.le_refl _)))
  have hz : szE s = 0 := by simp [szE, hm]
  obtain ⟨e, HE⟩ : ∃ e, Hid (mayE s = e) := ⟨_, rfl⟩
  have he : (e != 0) = true := by rw [← HE.out]; simpa using hm
  rw [hz, HE.out] at C
  rw [HE.out]
  clear h hb hm hz
  go_enter Tryz.func141, Tryz.ntmps141
  go_wp2_with fail
  refine (C.out _).mono ?_; rintro e' w' ⟨rfl, rfl⟩
  go_wp2
  exact bodyPost_ret (v := .tuple #[.agg #[.slice none 0 0, .slice none 0 0], .int .i64 e]) (by simp [results, Tryz.results141, go_sem, *]) rfl ⟨⟨none, 0, 0, none, 0, 0, [], []⟩, rfl, Ar.is_nil _, rfl, rfl, Ar.own_nil _ _, (Below.refl _ _).alloc (Nat.le_refl _) _⟩
/-- What lies behind the making of an array out of a copied shape and a row of zeros. -/
structure FillMid (w' wx : World) (b8 n : Nat) (ao1 : Option Addr) (c1 N g : Nat) (s : List Int) (z : List Int) : Prop where
  box : BoxA wx b8 (.slice ao1 n c1) (.slice (some ⟨g, 0, none⟩) N N)
  le : w'.heap.size ≤ b8
  L1 : Ls wx ao1 n c1 s
  O1 : wx.ownsRow w'.heap.size 3 1 (.slice ao1 n c1) n (s.map (Value.int .i64))
  O2 : wx.ownsRow w'.heap.size 2 1 (.slice (some ⟨g, 0, none⟩) N N) N (z.map (Value.int .i64))
  ne : (Value.slice ao1 n c1).ownBlock ≠ some g
  n1 : (Value.slice ao1 n c1).ownBlock ≠ some b8
  n2 : g ≠ b8
  below : Below w'.heap.size w' wx
theorem BoxA.set {W : World} {b : Nat} {u v : Value} (h : BoxA W b u v) (u' v' : Value) : BoxA ((W.setCell ⟨b, 0, none⟩ u').setCell ⟨b, 1, none⟩ v') b u' v' := by
  obtain ⟨c0, c1, f0, f1, lt⟩ := h
  exact ⟨by simp [go_sem, *], by simp [go_sem, *], by simp [go_sem, *], by simp [go_sem, *], by simpa using lt⟩
theorem BoxA.new (W : World) (T : TypeId) (u v : Value) : BoxA (W.alloc (.cells #[u, v] T)) W.heap.size u v :=
  ⟨by simp [go_sem], by simp [go_sem], by simp [go_sem], by simp [go_sem], by simp⟩
theorem ls_set {w : World} {ao : Option Addr} {n c : Nat} {s : List Int} {base b : Nat} {E : TypeId} (h : Ls w ao n c s) (hO : w.ownsRow base E 1 (.slice ao n c) n (s.map (Value.int .i64))) (hb : b < base) (u v : Value) :
    Ls ((w.setCell ⟨b, 0, none⟩ u).setCell ⟨b, 1, none⟩ v) ao n c s :=
  ls_of_own (ownsRow_setCell_below (ownsRow_setCell_below hO (by exact hb) _) (by exact hb) _) h.big h.rng
section
variable {w' w2 : World} {n c1 N : Nat} {ao1 : Option Addr} {s : List Int}
theorem fm_135 (hN : N ≤ 1000000) (hL : Ls w2 ao1 n c1 s) (hO : w2.ownsRow w'.drew.heap.size 3 1 (.slice ao1 n c1) n (s.map (Value.int .i64))) (hB : Below w'.drew.heap.size w'.drew w2) :
    FillMid w' ((w2.alloc (.cells (Array.replicate N (.int .i64 0)) 2)).alloc (.cells #[.slice ao1 n c1, .slice (some ⟨w2.heap.size, 0, none⟩) N N] 38)) (w2.heap.size + 1) n ao1 c1 N (w2.heap.size) s (List.replicate N 0) := by
  have hs := hB.size
  rw [show w'.drew.heap.size = w'.heap.size from rfl] at hs hO
  have hB' : Below w'.heap.size w' w2 := (Below.refl _ _).drew.trans hB
  refine ⟨by simpa using BoxA.new (w2.alloc (.cells (Array.replicate N (.int .i64 0)) 2)) _ _ _, by omega, ?_, (hO.alloc _).alloc _, (own_zeros w2 _ N _ hN hs).alloc _, ?_, ?_, ?_, (hB'.alloc hs _).alloc (by simp; omega) _⟩
  · exact (hL.below ((Below.refl _ _).alloc (Nat.le_refl _) _) (Nat.le_refl _)).below ((Below.refl _ _).alloc (Nat.le_refl _) _) (Nat.le_refl _)
  · intro h1; have := own_block hO h1; omega
  · intro h1; have := own_block hO h1; omega
  · omega
theorem fm_153 (hN : N ≤ 1000000) (hL : Ls w2 ao1 n c1 s) (hO : w2.ownsRow w'.drew.heap.size 3 1 (.slice ao1 n c1) n (s.map (Value.int .i64))) (hB : Below w'.drew.heap.size w'.drew w2) :
    FillMid w' ((w2.alloc (.cells #[.slice ao1 n c1, .slice (some ⟨w2.heap.size + 1, 0, none⟩) N N] 38)).alloc (.cells (Array.replicate N (.int .i64 0)) 2)) w2.heap.size n ao1 c1 N (w2.heap.size + 1) s (List.replicate N 0) := by
  have hs := hB.size
  rw [show w'.drew.heap.size = w'.heap.size from rfl] at hs hO
  have hB' : Below w'.heap.size w' w2 := (Below.refl _ _).drew.trans hB
  have hz := own_zeros (w2.alloc (.cells #[.slice ao1 n c1, .slice (some ⟨w2.heap.size + 1, 0, none⟩) N N] 38)) 2 N w'.heap.size hN (by simp; omega)
  refine ⟨(BoxA.new w2 _ _ _).below ((Below.refl _ _).alloc (Nat.le_refl _) _) (by simp), hs, ?_, (hO.alloc _).alloc _, by simpa using hz, ?_, ?_, ?_, (hB'.alloc hs _).alloc (by simp; omega) _⟩
  · exact (hL.below ((Below.refl _ _).alloc (Nat.le_refl _) _) (Nat.le_refl _)).below ((Below.refl _ _).alloc (Nat.le_refl _) _) (Nat.le_refl _)
  · intro h1; have := own_block hO h1; omega
  · intro h1; have := own_block hO h1; omega
  · omega
theorem fm_315 (hN : N ≤ 1000000) (hL : Ls w2 ao1 n c1 s) (hO : w2.ownsRow (w'.alloc (.cells (Array.replicate N (.int .i64 0)) 2)).drew.heap.size 3 1 (.slice ao1 n c1) n (s.map (Value.int .i64))) (hB : Below (w'.alloc (.cells (Array.replicate N (.int .i64 0)) 2)).drew.heap.size (w'.alloc (.cells (Array.replicate N (.int .i64 0)) 2)).drew w2) :
    FillMid w' (w2.alloc (.cells #[.slice ao1 n c1, .slice (some ⟨w'.heap.size, 0, none⟩) N N] 38)) w2.heap.size n ao1 c1 N (w'.heap.size) s (List.replicate N 0) := by
  have hs := hB.size
  rw [show (w'.alloc (.cells (Array.replicate N (.int .i64 0)) 2)).drew.heap.size = w'.heap.size + 1 by simp] at hs hO
  have hB' : Below w'.heap.size w' w2 := ((Below.refl _ _).alloc (Nat.le_refl _) _).drew.trans (hB.mono (by simp))
  have hz := own_below (w := (w'.alloc (.cells (Array.replicate N (.int .i64 0)) 2)).drew) (own_zeros w' 2 N w'.heap.size hN (Nat.le_refl _)).drew hB (Nat.le_refl _)
  refine ⟨BoxA.new w2 _ _ _, by omega, hL.below ((Below.refl _ _).alloc (Nat.le_refl _) _) (Nat.le_refl _), own_mono (hO.alloc _) (by omega), hz.alloc _, ?_, ?_, ?_, hB'.alloc (by omega) _⟩
  · intro h1; have := own_block hO h1; omega
  · intro h1; have := own_block hO h1; omega
  · omega
theorem fm_351 (hN : N ≤ 1000000) (hL : Ls w2 ao1 n c1 s) (hO : w2.ownsRow ((w'.alloc (.cells (Array.replicate N (.int .i64 0)) 2)).alloc (.cells #[.slice none 0 0, .slice none 0 0] 38)).drew.heap.size 3 1 (.slice ao1 n c1) n (s.map (Value.int .i64))) (hB : Below ((w'.alloc (.cells (Array.replicate N (.int .i64 0)) 2)).alloc (.cells #[.slice none 0 0, .slice none 0 0] 38)).drew.heap.size ((w'.alloc (.cells (Array.replicate N (.int .i64 0)) 2)).alloc (.cells #[.slice none 0 0, .slice none 0 0] 38)).drew w2)
    (hX : BoxA w2 (w'.heap.size + 1) (.slice none 0 0) (.slice none 0 0)) :
    FillMid w' ((w2.setCell ⟨w'.heap.size + 1, 0, none⟩ (.slice ao1 n c1)).setCell ⟨w'.heap.size + 1, 1, none⟩ (.slice (some ⟨w'.heap.size, 0, none⟩) N N)) (w'.heap.size + 1) n ao1 c1 N (w'.heap.size) s (List.replicate N 0) := by
  have hs := hB.size
  rw [show ((w'.alloc (.cells (Array.replicate N (.int .i64 0)) 2)).alloc (.cells #[.slice none 0 0, .slice none 0 0] 38)).drew.heap.size = w'.heap.size + 2 by simp] at hs hO
  have hB' : Below w'.heap.size w' w2 := (((Below.refl _ _).alloc (Nat.le_refl _) _).alloc (by simp) _).drew.trans (hB.mono (by simp; omega))
  have hz := own_below (w := ((w'.alloc (.cells (Array.replicate N (.int .i64 0)) 2)).alloc (.cells #[.slice none 0 0, .slice none 0 0] 38)).drew) ((own_zeros w' 2 N w'.heap.size hN (Nat.le_refl _)).alloc (.cells #[.slice none 0 0, .slice none 0 0] 38)).drew hB (Nat.le_refl _)
  refine ⟨hX.set _ _, by omega, ls_set hL hO (by omega) _ _, own_mono (ownsRow_setCell_below (ownsRow_setCell_below hO (by dsimp only; omega) _) (by dsimp only; omega) _) (by omega), ?_, ?_, ?_, ?_, (hB'.setCell (by dsimp only; omega) _).setCell (by dsimp only; omega) _⟩
  · exact ownsRow_setCell_other (ownsRow_setCell_other hz (by simp [Value.ownBlock]) _) (by simp [Value.ownBlock]) _
  · intro h1; have := own_block hO h1; omega
  · intro h1; have := own_block hO h1; omega
  · omega
theorem fm_513 (hN : N ≤ 1000000) (hL : Ls w2 ao1 n c1 s) (hO : w2.ownsRow (w'.alloc (.cells #[.slice none 0 0, .slice none 0 0] 38)).drew.heap.size 3 1 (.slice ao1 n c1) n (s.map (Value.int .i64))) (hB : Below (w'.alloc (.cells #[.slice none 0 0, .slice none 0 0] 38)).drew.heap.size (w'.alloc (.cells #[.slice none 0 0, .slice none 0 0] 38)).drew w2)
    (hX : BoxA w2 w'.heap.size (.slice none 0 0) (.slice none 0 0)) :
    FillMid w' (((w2.setCell ⟨w'.heap.size, 0, none⟩ (.slice ao1 n c1)).setCell ⟨w'.heap.size, 1, none⟩ (.slice (some ⟨w2.heap.size, 0, none⟩) N N)).alloc (.cells (Array.replicate N (.int .i64 0)) 2)) w'.heap.size n ao1 c1 N (w2.heap.size) s (List.replicate N 0) := by
  have hs := hB.size
  rw [show (w'.alloc (.cells #[.slice none 0 0, .slice none 0 0] 38)).drew.heap.size = w'.heap.size + 1 by simp] at hs hO
  have hB' : Below w'.heap.size w' w2 := ((Below.refl _ _).alloc (Nat.le_refl _) _).drew.trans (hB.mono (by simp))
  have hB2 : Below w'.heap.size w' ((w2.setCell ⟨w'.heap.size, 0, none⟩ (.slice ao1 n c1)).setCell ⟨w'.heap.size, 1, none⟩ (.slice (some ⟨w2.heap.size, 0, none⟩) N N)) := (hB'.setCell (by dsimp only; omega) _).setCell (by dsimp only; omega) _
  have hz := own_zeros ((w2.setCell ⟨w'.heap.size, 0, none⟩ (.slice ao1 n c1)).setCell ⟨w'.heap.size, 1, none⟩ (.slice (some ⟨w2.heap.size, 0, none⟩) N N)) 2 N w'.heap.size hN hB2.size
  refine ⟨(hX.set _ _).below ((Below.refl _ _).alloc (Nat.le_refl _) _) (by simpa using hX.lt), Nat.le_refl _, (ls_set hL hO (by omega) _ _).below ((Below.refl _ _).alloc (Nat.le_refl _) _) (Nat.le_refl _), (own_mono (ownsRow_setCell_below (ownsRow_setCell_below hO (by dsimp only; omega) _) (by dsimp only; omega) _) (by omega)).alloc _, by simpa using hz, ?_, ?_, ?_, hB2.alloc hB2.size _⟩
  · intro h1; have := own_block hO h1; omega
  · intro h1; have := own_block hO h1; omega
  · have := hX.lt; omega
theorem fm_531 (hN : N ≤ 1000000) (hL : Ls w2 ao1 n c1 s) (hO : w2.ownsRow ((w'.alloc (.cells #[.slice none 0 0, .slice none 0 0] 38)).alloc (.cells (Array.replicate N (.int .i64 0)) 2)).drew.heap.size 3 1 (.slice ao1 n c1) n (s.map (Value.int .i64))) (hB : Below ((w'.alloc (.cells #[.slice none 0 0, .slice none 0 0] 38)).alloc (.cells (Array.replicate N (.int .i64 0)) 2)).drew.heap.size ((w'.alloc (.cells #[.slice none 0 0, .slice none 0 0] 38)).alloc (.cells (Array.replicate N (.int .i64 0)) 2)).drew w2)
    (hX : BoxA w2 w'.heap.size (.slice none 0 0) (.slice none 0 0)) :
    FillMid w' ((w2.setCell ⟨w'.heap.size, 0, none⟩ (.slice ao1 n c1)).setCell ⟨w'.heap.size, 1, none⟩ (.slice (some ⟨w'.heap.size + 1, 0, none⟩) N N)) w'.heap.size n ao1 c1 N (w'.heap.size + 1) s (List.replicate N 0) := by
  have hs := hB.size
  rw [show ((w'.alloc (.cells #[.slice none 0 0, .slice none 0 0] 38)).alloc (.cells (Array.replicate N (.int .i64 0)) 2)).drew.heap.size = w'.heap.size + 2 by simp] at hs hO
  have hB' : Below w'.heap.size w' w2 := (((Below.refl _ _).alloc (Nat.le_refl _) _).alloc (by simp) _).drew.trans (hB.mono (by simp; omega))
  have hz0 := own_zeros (w'.alloc (.cells #[.slice none 0 0, .slice none 0 0] 38)) 2 N w'.heap.size hN (by simp)
  rw [show (w'.alloc (.cells #[.slice none 0 0, .slice none 0 0] 38)).heap.size = w'.heap.size + 1 by simp] at hz0
  have hz := own_below (w := ((w'.alloc (.cells #[.slice none 0 0, .slice none 0 0] 38)).alloc (.cells (Array.replicate N (.int .i64 0)) 2)).drew) hz0.drew hB (Nat.le_refl _)
  refine ⟨hX.set _ _, Nat.le_refl _, ls_set hL hO (by omega) _ _, own_mono (ownsRow_setCell_below (ownsRow_setCell_below hO (by dsimp only; omega) _) (by dsimp only; omega) _) (by omega), ?_, ?_, ?_, ?_, (hB'.setCell (by dsimp only; omega) _).setCell (by dsimp only; omega) _⟩
  · exact ownsRow_setCell_other (ownsRow_setCell_other hz (by simp [Value.ownBlock]) _) (by simp [Value.ownBlock]) _
  · intro h1; have := own_block hO h1; omega
  · intro h1; have := own_block hO h1; omega
  · omega
end
theorem FillMid.put {w' wx : World} {b8 n c1 N g k : Nat} {ao1 : Option Addr} {s z : List Int} (h : FillMid w' wx b8 n ao1 c1 N g s z) (x : Int) : FillMid w' (wx.setCell ⟨g, k, none⟩ (.int .i64 x)) b8 n ao1 c1 N g s (z.set k x) := by
  have O1' := ownsRow_setCell_other h.O1 (a := ⟨g, k, none⟩) h.ne (.int .i64 x)
  have hg := (own_block h.O2 (g := g) rfl).1
  refine ⟨⟨?_, ?_, ?_, ?_, ?_⟩, h.le, ls_of_own O1' h.L1.big h.L1.rng, O1', ?_, h.ne, h.n1, h.n2, h.below.setCell hg _⟩
  · rw [World.cell?_setCell_far _ _ _ _ (by exact h.n2)]; exact h.box.c0
  · rw [World.cell?_setCell_far _ _ _ _ (by exact h.n2)]; exact h.box.c1
  · rw [World.frozen?_setCell]; exact h.box.f0
  · rw [World.frozen?_setCell]; exact h.box.f1
  · simpa using h.box.lt
  · have h2 := (h.O2.stored k (.int .i64 x)).1
    rw [List.map_set]
    exact h2
theorem set_fill (x : Int) (k N : Nat) (h : k < N) : (List.replicate k x ++ List.replicate (N - k) (0 : Int)).set k x = List.replicate (k + 1) x ++ List.replicate (N - (k + 1)) 0 := by
  rw [List.set_append_right _ _ (by simp)]
  simp only [List.length_replicate, Nat.sub_self]
  obtain ⟨q, hq⟩ : ∃ q, N - k = q + 1 := ⟨N - k - 1, by omega⟩
  rw [hq, show N - (k + 1) = q by omega, List.replicate_succ (n := q), List.set_cons_zero, List.replicate_succ' (n := k), List.append_assoc]
  rfl
set_option maxRecDepth 100000 in
set_option maxHeartbeats 800000 in
theorem fill_ok {w : World} {ao : Option Addr} {n c : Nat} {s : List Int} (h : Ls w ao n c s) (x : Int) (hx : -9223372036854775808 ≤ x ∧ x ≤ 9223372036854775807) (hm : mayE s = 0) :
    Calls Tryz.prog 141 #[.slice ao n c, .int .i64 x] w (MadeE w s (List.replicate (pr s).toNat x) 0) := by
  obtain ⟨W, HWW⟩ : ∃ W, Hid (w.alloc (.cells #[.slice none 0 0, .slice none 0 0] 38) = W) := ⟨_, rfl⟩
  have hw : Below w.heap.size w W := by rw [← HWW.out]; exact (Below.refl _ _).alloc (Nat.le_refl _) _
  have B0 : BoxA W w.heap.size (.slice none 0 0) (.slice none 0 0) := by
    rw [← HWW.out]; exact ⟨by simp [go_sem], by simp [go_sem], by simp [go_sem], by simp [go_sem], by simp⟩
  have C := Lib.hid (size_any (h.below hw (Nat.le_refl _)))
  obtain ⟨N, hN⟩ : ∃ N : Nat, szE s = N := by have := szE_bd s; exact ⟨(szE s).toNat, by omega⟩
  have hN2 : (pr s).toNat = N := by have h := hN; unfold szE at h; rw [if_pos hm] at h; omega
  have hNb : N ≤ 4096 := by have := szE_bd s; omega
  rw [hN, hm] at C
  rw [hN2]
  have CA := Lib.hid (fun W1 (hB : Below W.heap.size W W1) => clone_any ((h.below hw (Nat.le_refl _)).below hB (Nat.le_refl _)))
  have HW := Lib.hid hw
  have HB0 := Lib.hid B0
  have HH := Lib.hid h
  have hmk := fun w => mk_int64 N (by omega) w
  clear h hw hm hN hN2 B0
  go_enter Tryz.func141, Tryz.ntmps141
  go_wp2_with fail
  rw [HWW.out]
  refine C.out.mono ?_; rintro e' w' ⟨rfl, rfl⟩
  go_wp2_with fail
  have CA0 := Lib.hid (CA.out (w'.drew) ((Below.refl _ _).drew))
  have CA1 := Lib.hid (CA.out ((w'.alloc (.cells (Array.replicate N (.int .i64 0)) 2)).drew) (((Below.refl _ _).alloc (Nat.le_refl _) _).drew))
  have CA2 := Lib.hid (CA.out ((w'.alloc (.cells #[.slice none 0 0, .slice none 0 0] 38)).drew) (((Below.refl _ _).alloc (Nat.le_refl _) _).drew))
  have CA3 := Lib.hid (CA.out (((w'.alloc (.cells (Array.replicate N (.int .i64 0)) 2)).alloc (.cells #[.slice none 0 0, .slice none 0 0] 38)).drew) ((((Below.refl _ _).alloc (Nat.le_refl _) _).alloc (by simp) _).drew))
  have CA4 := Lib.hid (CA.out (((w'.alloc (.cells #[.slice none 0 0, .slice none 0 0] 38)).alloc (.cells (Array.replicate N (.int .i64 0)) 2)).drew) ((((Below.refl _ _).alloc (Nat.le_refl _) _).alloc (by simp) _).drew))
  go_cut [8] from 19 (fun v8 wx => ∃ b8 ao1 c1 g, v8 = .pointer (some ⟨b8, 0, none⟩) ∧ Hid (FillMid w' wx b8 n ao1 c1 N g s (List.replicate N 0)))
  case first =>
    go_region_held3 (fun _ => True) (trivial)
      (first
      | (go_at_call 131; (with_reducible refine Calls.mono CA0.out ?_); rintro e w2 ⟨ao1, c1, rfl, hL1, hO1, hB1⟩; have HL1 := Lib.hid hL1; have HO1 := Lib.hid hO1; have HB1 := Lib.hid hB1)
      | (go_at_call 131; (with_reducible refine Calls.mono CA1.out ?_); rintro e w2 ⟨ao1, c1, rfl, hL1, hO1, hB1⟩; have HL1 := Lib.hid hL1; have HO1 := Lib.hid hO1; have HB1 := Lib.hid hB1)
      | (go_at_call 131; (with_reducible refine Calls.mono CA2.out ?_); rintro e w2 ⟨ao1, c1, rfl, hL1, hO1, hB1⟩; have HL1 := Lib.hid hL1; have HO1 := Lib.hid hO1; have HB1 := Lib.hid hB1; have hbx : BoxA w2 (w'.heap.size) (.slice none 0 0) (.slice none 0 0) := BoxA.below (W := (w'.alloc (.cells #[.slice none 0 0, .slice none 0 0] 38)).drew) ⟨by simp [go_sem], by simp [go_sem], by simp [go_sem], by simp [go_sem], by simp; try omega⟩ hB1 (by simp; try omega); have HBX := Lib.hid hbx; obtain ⟨k0, k1, k2, k3, k4⟩ := hbx)
      | (go_at_call 131; (with_reducible refine Calls.mono CA3.out ?_); rintro e w2 ⟨ao1, c1, rfl, hL1, hO1, hB1⟩; have HL1 := Lib.hid hL1; have HO1 := Lib.hid hO1; have HB1 := Lib.hid hB1; have hbx : BoxA w2 (w'.heap.size + 1) (.slice none 0 0) (.slice none 0 0) := BoxA.below (W := ((w'.alloc (.cells (Array.replicate N (.int .i64 0)) 2)).alloc (.cells #[.slice none 0 0, .slice none 0 0] 38)).drew) ⟨by simp [go_sem], by simp [go_sem], by simp [go_sem], by simp [go_sem], by simp; try omega⟩ hB1 (by simp; try omega); have HBX := Lib.hid hbx; obtain ⟨k0, k1, k2, k3, k4⟩ := hbx)
      | (go_at_call 131; (with_reducible refine Calls.mono CA4.out ?_); rintro e w2 ⟨ao1, c1, rfl, hL1, hO1, hB1⟩; have HL1 := Lib.hid hL1; have HO1 := Lib.hid hO1; have HB1 := Lib.hid hB1; have hbx : BoxA w2 (w'.heap.size) (.slice none 0 0) (.slice none 0 0) := BoxA.below (W := ((w'.alloc (.cells #[.slice none 0 0, .slice none 0 0] 38)).alloc (.cells (Array.replicate N (.int .i64 0)) 2)).drew) ⟨by simp [go_sem], by simp [go_sem], by simp [go_sem], by simp [go_sem], by simp; try omega⟩ hB1 (by simp; try omega); have HBX := Lib.hid hbx; obtain ⟨k0, k1, k2, k3, k4⟩ := hbx)
      )
    all_goals go_wp2_with fail
    all_goals go_meet
    all_goals first
      | exact ⟨_, _, _, _, rfl, fm_135 (by omega) HL1.out HO1.out HB1.out⟩
      | exact ⟨_, _, _, _, rfl, fm_153 (by omega) HL1.out HO1.out HB1.out⟩
      | exact ⟨_, _, _, _, rfl, fm_315 (by omega) HL1.out HO1.out HB1.out⟩
      | exact ⟨_, _, _, _, rfl, fm_351 (by omega) HL1.out HO1.out HB1.out HBX.out⟩
      | exact ⟨_, _, _, _, rfl, fm_513 (by omega) HL1.out HO1.out HB1.out HBX.out⟩
      | exact ⟨_, _, _, _, rfl, fm_531 (by omega) HL1.out HO1.out HB1.out HBX.out⟩
  case rest =>
    obtain ⟨b8, ao1, c1, g, rfl, HM⟩ := hcut
    clear CA0 CA1 CA2 CA3 CA4 hmk CA
    obtain ⟨k0, k1, k2, k3, k4⟩ := HM.out.box
    go_wp2_with fail
    go_loopw [27] (fun i wr => ∃ k : Nat, k ≤ N ∧ i = .int .i64 k ∧ Hid (FillMid w' wr b8 n ao1 c1 N g s (List.replicate k x ++ List.replicate (N - k) 0))) (fun i _ => N - (RowKit.intOf i).toNat)
    case atStart => exact ⟨0, Nat.zero_le _, rfl, by simpa using HM⟩
    case round =>
      obtain ⟨k, hk, rfl, HR⟩ := hrel
      clear k0 k1 k2 k3 k4
      obtain ⟨k0, k1, k2, k3, k4⟩ := HR.out.box
      by_cases hlt : k < N
      · have hlt' : (k : Int) < N := by omega
        have d1 : ∃ v, wr.cell? ⟨g, k, none⟩ = some v := by
          rw [HR.out.O2.cellAt k (by omega)]
          exact ⟨_, List.getElem?_eq_getElem (by simp; omega)⟩
        obtain ⟨v0, d1⟩ := d1
        have d2 := HR.out.O2.frozenAt k
        have HP := Lib.hid (HR.out.put (k := k) x)
        rw [set_fill x k N hlt] at HP
        go_wp2
        go_roundw
        case rel => exact ⟨k + 1, by omega, by go_num, HP⟩
        case measure => simp [RowKit.intOf]; omega
      · obtain rfl : k = N := by omega
        have hge : (k : Int) ≤ k := Int.le_refl _
        obtain ⟨j0, j1, j2, j3, j4⟩ := HB0.out.below HR.out.below HB0.out.lt
        have hE : MadeE w s (List.replicate k x) 0 (.returned (.tuple #[.agg #[.slice ao1 n c1, .slice (some ⟨g, 0, none⟩) k k], .int .i64 0])) ((wr.setCell ⟨w.heap.size, 0, none⟩ (.slice ao1 n c1)).setCell ⟨w.heap.size, 1, none⟩ (.slice (some ⟨g, 0, none⟩) k k)) := by
          have hR := HR.out
          have hs := HW.out.size
          have hl := HB0.out.lt
          rw [Nat.sub_self, List.replicate_zero, List.append_nil] at hR
          refine made_mk 0 (((HW.out.trans (hR.below.mono hs)).setCell (by simp) _).setCell (by simp) _) (own_mono (ownsRow_setCell_below (ownsRow_setCell_below hR.O1 (by dsimp only; omega) _) (by dsimp only; omega) _) hs) (own_mono (ownsRow_setCell_below (ownsRow_setCell_below hR.O2 (by dsimp only; omega) _) (by dsimp only; omega) _) hs) ?_ hR.L1.big (by omega) hR.L1.rng ?_
          · intro q h1 h2
            simp [Value.ownBlock] at h2
            subst h2
            exact hR.ne h1
          · intro i
            by_cases hi : i < k
            · simpa [List.getD, hi] using hx
            · simp [List.getD, hi]
        have HE := Lib.hid hE
        clear hE
        go_wp2
        exact bodyPost_ret (v := .tuple #[.agg #[.slice ao1 n c1, .slice (some ⟨g, 0, none⟩) k k], .int .i64 0]) (by simp [results, Tryz.results141, go_sem, *]) rfl HE.out
end Go.Proofs.YthackmkdicpdeaaGreat
namespace Go.Proofs.YthackmkdicpdeaaGreat
open Go.RowKit Go.Lib
set_option linter.unusedVariables false
set_option linter.unusedSimpArgs false
theorem abal (w : World) (o : Obj) : Below w.heap.size w (w.alloc o) := (Below.refl _ _).alloc (Nat.le_refl _) _
theorem abvia {w W1 W2 : World} (h : Below w.heap.size w W1) (h2 : Below W1.heap.size W1 W2) : Below w.heap.size w W2 := h.trans (h2.mono h.size)
theorem adrew (w : World) (n : Nat) : Below w.heap.size w (w.drewN n) := below_drewN (Below.refl _ _) n
theorem adrew1 (w : World) : Below w.heap.size w w.drew := (Below.refl _ _).drew
theorem BoxA.lt' {W W' : World} {b B : Nat} {u v : Value} (h : BoxA W b u v) (hb : Below B W W') : b < W'.heap.size := Nat.lt_of_lt_of_le h.lt hb.size
/-- A box of one value. -/
structure Box1 (W : World) (b : Nat) (u : Value) : Prop where
  c0 : W.cell? ⟨b, 0, none⟩ = some u
  f0 : W.frozen? ⟨b, 0, none⟩ = false
  lt : b < W.heap.size
theorem Box1.below {W W' : World} {b : Nat} {u : Value} (h : Box1 W b u) {B : Nat} (hb : Below B W W') (hB : b < B) : Box1 W' b u :=
  ⟨(hb.cell (p := ⟨b, 0, none⟩) hB).trans h.c0, (hb.frozen (p := ⟨b, 0, none⟩) hB).trans h.f0, Nat.lt_of_lt_of_le h.lt hb.size⟩
theorem Box1.via {W W' : World} {b : Nat} {u : Value} (h : Box1 W b u) (hb : Below W.heap.size W W') : Box1 W' b u := h.below hb h.lt
theorem BoxA.via {W W' : World} {b : Nat} {u v : Value} (h : BoxA W b u v) (hb : Below W.heap.size W W') : BoxA W' b u v := h.below hb h.lt
theorem Ar.Is.via {A : Ar} {w w' : World} (h : A.Is w) (hb : Below w.heap.size w w') : A.Is w' := h.below hb (Nat.le_refl _)
theorem Ls.via {w w' : World} {ao : Option Addr} {n c : Nat} {zs : List Int} (h : Ls w ao n c zs) (hb : Below w.heap.size w w') : Ls w' ao n c zs := h.below hb (Nat.le_refl _)
theorem Box1.new (W : World) (T : TypeId) (u : Value) : Box1 (W.alloc (.cells #[u] T)) W.heap.size u := ⟨by simp [go_sem], by simp [go_sem], by simp⟩
theorem FillMid.next {w' wx wy : World} {b8 n c1 N g : Nat} {ao1 : Option Addr} {s z : List Int} (h : FillMid w' wx b8 n ao1 c1 N g s z) (hb : Below wx.heap.size wx wy) : FillMid w' wy b8 n ao1 c1 N g s z :=
  ⟨h.box.via hb, h.le, h.L1.via hb, own_below h.O1 hb (Nat.le_refl _), own_below h.O2 hb (Nat.le_refl _), h.ne, h.n1, h.n2, abvia h.below hb⟩
/-- An empty answer. -/
theorem made_nil {w w' : World} (e : Int) (h : Below w.heap.size w w') : MadeE w [] [] e (.returned (.tuple #[.agg #[.slice none 0 0, .slice none 0 0], .int .i64 e])) w' :=
  ⟨⟨none, 0, 0, none, 0, 0, [], []⟩, rfl, Ar.is_nil _, rfl, rfl, Ar.own_nil _ _, h⟩
/-- The answer that was made out of a copied shape and a row. -/
theorem made_mid {w w' wr : World} {b8 n c1 N g b : Nat} {ao1 : Option Addr} {s z : List Int} (h : FillMid w' wr b8 n ao1 c1 N g s z) (hw : Below w.heap.size w w') (hb : b < w'.heap.size) (hb2 : w.heap.size ≤ b) (hN : N ≤ 1000000) (hr : ∀ i, -9223372036854775808 ≤ z.getD i 0 ∧ z.getD i 0 ≤ 9223372036854775807) (u v : Value) :
    MadeE w s z 0 (.returned (.tuple #[.agg #[.slice ao1 n c1, .slice (some ⟨g, 0, none⟩) N N], .int .i64 0])) ((wr.setCell ⟨b, 0, none⟩ u).setCell ⟨b, 1, none⟩ v) := by
  have hs := hw.size
  refine made_mk 0 (((hw.trans (h.below.mono hs)).setCell (by dsimp only; omega) _).setCell (by dsimp only; omega) _) (own_mono (ownsRow_setCell_below (ownsRow_setCell_below h.O1 (by dsimp only; omega) _) (by dsimp only; omega) _) hs) (own_mono (ownsRow_setCell_below (ownsRow_setCell_below h.O2 (by dsimp only; omega) _) (by dsimp only; omega) _) hs) ?_ h.L1.big (by omega) h.L1.rng hr
  intro q h1 h2
  simp [Value.ownBlock] at h2
  subst h2
  exact h.ne h1
end Go.Proofs.YthackmkdicpdeaaGreat
namespace Go.Proofs.YthackmkdicpdeaaGreat
open Go.RowKit Go.Lib
set_option linter.unusedVariables false
set_option linter.unusedSimpArgs false
theorem own_form {w : World} {base : Nat} {E : TypeId} {v : Value} {n : Nat} {xs : List Value} (h : w.ownsRow base E 1 v n xs) : ∃ ao c, v = .slice ao n c := by
  rcases h.2 with ⟨rfl, rfl⟩ | ⟨g, cap, cur, rfl, _⟩
  · exact ⟨_, _, rfl⟩
  · exact ⟨_, _, rfl⟩
section
variable {P : Program} (w : World)
theorem run_append_ls (base : Nat) (t ty e : TypeId) (i : TypeInfo) (ht : P.underlying t = some (.slice e)) (hi : P.info? e = some i) (hz : i.zero = some (.int .i64 0)) (hsize : i.size = 1) (hby : i.bytes = 8)
    (v : Value) (n : Nat) (xs : List Int) (hown : w.ownsRow base e 1 v n (xs.map (Value.int .i64))) {ao : Option Addr} {m c : Nat} {zs : List Int} (hL : Ls w ao m c zs)
    (h63 : n + m ≤ 1000000) (hbase : base ≤ w.heap.size) :
    ∃ v' w', (Builtin.append_ #[t, t] ty #[v, .slice ao m c]).run P w = .ok v' w' ∧ w'.ownsRow base e 1 v' (n + m) ((xs ++ zs).map (Value.int .i64)) ∧ w.grownBy w' v.ownBlock := by
  cases ao with
  | some a =>
    have hc : ∀ j u, (zs.map (Value.int .i64))[j]? = some u → w.cell? (a.add j) = some u := by
      intro j u hj
      have hj' : j < zs.length := by
        rcases Nat.lt_or_ge j zs.length with h1 | h1
        · exact h1
        · rw [List.getElem?_eq_none (by simpa using h1)] at hj; cases hj
      have hl := hL.len
      obtain ⟨b, off, e1, hc⟩ := hL.at (by omega)
      cases e1
      rw [Addr.add_lit, hc j (by omega)]
      rw [getD_map_int zs j hj'] at hj
      exact hj
    obtain ⟨v', w', h1, h2, h3, _⟩ := run_append_own (P := P) w base t ty e i (.int .i64 0) 1 8 ht hi hz hsize hby rfl (by decide) v n (xs.map (Value.int .i64)) hown a m c (zs.map (Value.int .i64)) (by simp [hL.len]) hc
      (by intro u hu; simp only [List.mem_map] at hu; obtain ⟨x, _, rfl⟩ := hu; rfl) (by unfold maxLen; omega) (by omega) hbase
    exact ⟨v', w', h1, by rw [List.map_append]; exact h2, h3⟩
  | none =>
    have hm : m = 0 := by
      rcases Nat.eq_zero_or_pos m with h | h
      · exact h
      · obtain ⟨b, off, e1, _⟩ := hL.mem h; cases e1
    subst hm
    have hz0 : zs = [] := List.eq_nil_of_length_eq_zero hL.len
    subst hz0
    refine ⟨v, w, ?_, by simpa using hown, ⟨rfl, rfl, rfl, Nat.le_refl _, fun _ _ _ => rfl⟩⟩
    rcases hown.2 with ⟨rfl, rfl⟩ | ⟨g, cap, cur, rfl, hbg, hg, hnc, hcm, hcs, htake⟩
    · simp [Builtin.append_, run_underlying ht, sizeOf, typeInfo, hi, Builtin.lenOf, Builtin.firstCells, loadCells, loadCellsFrom]
    · simp [Builtin.append_, run_underlying ht, sizeOf, typeInfo, hi, Builtin.lenOf, Builtin.firstCells, storeCells, hnc]
theorem wpList_append_ls {ops : Array Oper} {rest : List Oper} {o : Oper} {a : Act} {Q : Exit → Act → World → Prop} (hgd : o.guard = none) (s x : Operand) (t : TypeId)
    (ho : o.op = .call { callee := .builtin .append, args := #[s, x], argTypes := #[t, t] })
    (base : Nat) (e : TypeId) (i : TypeInfo) (ht : P.underlying t = some (.slice e)) (hi : P.info? e = some i) (hz : i.zero = some (.int .i64 0)) (hsize : i.size = 1) (hby : i.bytes = 8)
    (v : Value) (n : Nat) (xs : List Int) (hs : a.eval s = v) (hown : w.ownsRow base e 1 v n (xs.map (Value.int .i64))) {ao : Option Addr} {m c : Nat} {zs : List Int} (hx : a.eval x = .slice ao m c) (hL : Ls w ao m c zs)
    (h63 : n + m ≤ 1000000) (hbase : base ≤ w.heap.size)
    (h : ∀ v' w', w'.ownsRow base e 1 v' (n + m) ((xs ++ zs).map (Value.int .i64)) → w.grownBy w' v.ownBlock → wpList P ops Q rest (a.put o.dst v') w') : wpList P ops Q (o :: rest) a w :=
  wpList_plain hgd fun _ hK => by
    obtain ⟨v', w', hr, h2, h3⟩ := run_append_ls (P := P) w base t o.type e i ht hi hz hsize hby v n xs hown hL h63 hbase
    unfold Oper.wp execOp
    simp only [ho, resolve, invoke, builtin, Sem.run_bind, Sem.run_pure, Result.andThen_ok, List.map_toArray, List.map_cons, List.map_nil, hs, hx, hr]
    exact hK _ _ (h v' w' h2 h3)
theorem run_append_big (base : Nat) (t ty e : TypeId) (i : TypeInfo) (ht : P.underlying t = some (.slice e)) (hi : P.info? e = some i) (hz : i.zero = some (.int .i64 0)) (hsize : i.size = 1) (hby : i.bytes = 8)
    (v : Value) (n : Nat) (xs : List Int) (hown : w.ownsRow base e 1 v n (xs.map (Value.int .i64))) {ao : Option Addr} {m c : Nat} {zs : List Int} (hL : Ls w ao m c zs)
    (h63 : (n + m) * 8 ≤ 140737488355328) (hbase : base ≤ w.heap.size) :
    ∃ v' w', (Builtin.append_ #[t, t] ty #[v, .slice ao m c]).run P w = .ok v' w' ∧ w'.ownsRow base e 1 v' (n + m) ((xs ++ zs).map (Value.int .i64)) ∧ w.grownBy w' v.ownBlock := by
  cases ao with
  | some a =>
    have hc : ∀ j u, (zs.map (Value.int .i64))[j]? = some u → w.cell? (a.add j) = some u := by
      intro j u hj
      have hj' : j < zs.length := by
        rcases Nat.lt_or_ge j zs.length with h1 | h1
        · exact h1
        · rw [List.getElem?_eq_none (by simpa using h1)] at hj; cases hj
      have hl := hL.len
      obtain ⟨b, off, e1, hc⟩ := hL.at (by omega)
      cases e1
      rw [Addr.add_lit, hc j (by omega)]
      rw [getD_map_int zs j hj'] at hj
      exact hj
    obtain ⟨v', w', h1, h2, h3, _⟩ := run_append_own (P := P) w base t ty e i (.int .i64 0) 1 8 ht hi hz hsize hby rfl (by decide) v n (xs.map (Value.int .i64)) hown a m c (zs.map (Value.int .i64)) (by simp [hL.len]) hc
      (by intro u hu; simp only [List.mem_map] at hu; obtain ⟨x, _, rfl⟩ := hu; rfl) (by unfold maxLen; omega) (by omega) hbase
    exact ⟨v', w', h1, by rw [List.map_append]; exact h2, h3⟩
  | none =>
    have hm : m = 0 := by
      rcases Nat.eq_zero_or_pos m with h | h
      · exact h
      · obtain ⟨b, off, e1, _⟩ := hL.mem h; cases e1
    subst hm
    have hz0 : zs = [] := List.eq_nil_of_length_eq_zero hL.len
    subst hz0
    refine ⟨v, w, ?_, by simpa using hown, ⟨rfl, rfl, rfl, Nat.le_refl _, fun _ _ _ => rfl⟩⟩
    rcases hown.2 with ⟨rfl, rfl⟩ | ⟨g, cap, cur, rfl, hbg, hg, hnc, hcm, hcs, htake⟩
    · simp [Builtin.append_, run_underlying ht, sizeOf, typeInfo, hi, Builtin.lenOf, Builtin.firstCells, loadCells, loadCellsFrom]
    · simp [Builtin.append_, run_underlying ht, sizeOf, typeInfo, hi, Builtin.lenOf, Builtin.firstCells, storeCells, hnc]
theorem wpList_append_big {ops : Array Oper} {rest : List Oper} {o : Oper} {a : Act} {Q : Exit → Act → World → Prop} (hgd : o.guard = none) (s x : Operand) (t : TypeId)
    (ho : o.op = .call { callee := .builtin .append, args := #[s, x], argTypes := #[t, t] })
    (base : Nat) (e : TypeId) (i : TypeInfo) (ht : P.underlying t = some (.slice e)) (hi : P.info? e = some i) (hz : i.zero = some (.int .i64 0)) (hsize : i.size = 1) (hby : i.bytes = 8)
    (v : Value) (n : Nat) (xs : List Int) (hs : a.eval s = v) (hown : w.ownsRow base e 1 v n (xs.map (Value.int .i64))) {ao : Option Addr} {m c : Nat} {zs : List Int} (hx : a.eval x = .slice ao m c) (hL : Ls w ao m c zs)
    (h63 : (n + m) * 8 ≤ 140737488355328) (hbase : base ≤ w.heap.size)
    (h : ∀ v' w', w'.ownsRow base e 1 v' (n + m) ((xs ++ zs).map (Value.int .i64)) → w.grownBy w' v.ownBlock → wpList P ops Q rest (a.put o.dst v') w') : wpList P ops Q (o :: rest) a w :=
  wpList_plain hgd fun _ hK => by
    obtain ⟨v', w', hr, h2, h3⟩ := run_append_big (P := P) w base t o.type e i ht hi hz hsize hby v n xs hown hL h63 hbase
    unfold Oper.wp execOp
    simp only [ho, resolve, invoke, builtin, Sem.run_bind, Sem.run_pure, Result.andThen_ok, List.map_toArray, List.map_cons, List.map_nil, hs, hx, hr]
    exact hK _ _ (h v' w' h2 h3)
end
end Go.Proofs.YthackmkdicpdeaaGreat
namespace Go.Proofs.YthackmkdicpdeaaGreat
open Go.RowKit Go.Lib
set_option linter.unusedVariables false
set_option linter.unusedSimpArgs false
/-- Of the blocks that were there those of F alone may hold something else. -/
structure Out (F : Nat → Prop) (w w' : World) : Prop where
  os : w'.os = w.os
  tape : w'.tape = w.tape
  output : w'.output = w.output
  size : w.heap.size ≤ w'.heap.size
  block : ∀ k, k < w.heap.size → ¬ F k → w'.heap[k]? = w.heap[k]?
theorem Out.refl (F : Nat → Prop) (w : World) : Out F w w := ⟨rfl, rfl, rfl, Nat.le_refl _, fun _ _ _ => rfl⟩
theorem Out.trans {F G : Nat → Prop} {a b c : World} (h : Out F a b) (k : Out G b c) (hG : ∀ i, i < a.heap.size → G i → F i) : Out F a c :=
  ⟨k.os.trans h.os, k.tape.trans h.tape, k.output.trans h.output, Nat.le_trans h.size k.size, fun i hi hn => (k.block i (Nat.lt_of_lt_of_le hi h.size) (fun g => hn (hG i hi g))).trans (h.block i hi hn)⟩
theorem Out.weak {F G : Nat → Prop} {a b : World} (h : Out F a b) (hG : ∀ i, i < a.heap.size → F i → G i) : Out G a b :=
  ⟨h.os, h.tape, h.output, h.size, fun i hi hn => h.block i hi (fun g => hn (hG i hi g))⟩
theorem Out.of {F : Nat → Prop} {w w' : World} (h : Below w.heap.size w w') : Out F w w' := ⟨h.os, h.tape, h.output, h.size, fun k hk _ => h.block k hk⟩
theorem Out.via {F : Nat → Prop} {w w1 w2 : World} (h : Out F w w1) (h2 : Below w1.heap.size w1 w2) : Out F w w2 := h.trans (G := fun _ => False) (.of h2) (fun _ _ h => h.elim)
theorem Out.toBelow {F : Nat → Prop} {w w' : World} (h : Out F w w') {B : Nat} (hF : ∀ k, F k → B ≤ k) (hB : B ≤ w.heap.size) : Below B w w' :=
  ⟨h.os, h.tape, h.output, h.size, fun k hk => h.block k (by omega) (fun f => by have := hF k f; omega)⟩
theorem Out.setCell {F : Nat → Prop} {a w : World} (h : Out F a w) {p : Addr} (hp : F p.block ∨ a.heap.size ≤ p.block) (u : Value) : Out F a (w.setCell p u) := by
  have k : Out (fun k => k = p.block) w (w.setCell p u) := ⟨rfl, rfl, rfl, by simp [World.setCell], fun k hk hn => Below.heap_setCell _ _ _ _ hn⟩
  refine h.trans k fun i hi e => ?_
  rcases hp with hp | hp
  · rw [show i = p.block from e]; exact hp
  · have : i = p.block := e
    omega
theorem Out.alloc {F : Nat → Prop} {a w : World} (h : Out F a w) (o : Obj) : Out F a (w.alloc o) := h.via (abal _ _)
theorem Out.grown {F : Nat → Prop} {a w w' : World} {row : Option Nat} (h : Out F a w) (hg : w.grownBy w' row) (hr : ∀ k, row = some k → F k ∨ a.heap.size ≤ k) : Out F a w' := by
  have k : Out (fun k => row = some k) w w' := ⟨hg.os, hg.tape, hg.output, hg.size, fun k hk hn => hg.block k hk (fun e => hn e.symm)⟩
  refine h.trans k fun i hi e => ?_
  rcases hr i e with hp | hp
  · exact hp
  · omega
theorem Out.cell {F : Nat → Prop} {w w' : World} (h : Out F w w') {p : Addr} (hp : p.block < w.heap.size) (hn : ¬ F p.block) : w'.cell? p = w.cell? p := World.cell?_of_block (w := w) (h.block p.block hp hn)
theorem Out.frozen {F : Nat → Prop} {w w' : World} (h : Out F w w') {p : Addr} (hp : p.block < w.heap.size) (hn : ¬ F p.block) : w'.frozen? p = w.frozen? p := World.frozen?_of_block (w := w) (h.block p.block hp hn)
theorem Out.own {F : Nat → Prop} {w w' : World} (h : Out F w w') {base : Nat} {E : TypeId} {v : Value} {n : Nat} {xs : List Value} (ho : w.ownsRow base E 1 v n xs) (hn : ∀ g, v.ownBlock = some g → ¬ F g) : w'.ownsRow base E 1 v n xs := by
  obtain ⟨h1, h2⟩ := ho
  refine ⟨h1, ?_⟩
  rcases h2 with h2 | ⟨g, cap, cur, hv, hg, hh, r⟩
  · exact .inl h2
  · refine .inr ⟨g, cap, cur, hv, hg, ?_, r⟩
    rw [h.block g (by have := (Array.getElem?_eq_some_iff.1 hh).1; omega) (hn g (by rw [hv]; rfl))]; exact hh
theorem Out.boxA {F : Nat → Prop} {w w' : World} (h : Out F w w') {b : Nat} {u v : Value} (hb : BoxA w b u v) (hn : ¬ F b) : BoxA w' b u v :=
  ⟨(h.cell (p := ⟨b, 0, none⟩) hb.lt hn).trans hb.c0, (h.cell (p := ⟨b, 1, none⟩) hb.lt hn).trans hb.c1, (h.frozen (p := ⟨b, 0, none⟩) hb.lt hn).trans hb.f0, (h.frozen (p := ⟨b, 1, none⟩) hb.lt hn).trans hb.f1, Nat.lt_of_lt_of_le hb.lt h.size⟩
/-- A row cut to none of its elements; lengthened to its capacity. -/
theorem own_shut {w : World} {base : Nat} {E : TypeId} {ao : Option Addr} {n c : Nat} {xs : List Value} (h : w.ownsRow base E 1 (.slice ao n c) n xs) : w.ownsRow base E 1 (.slice ao 0 c) 0 [] := by
  obtain ⟨h1, h2⟩ := h
  refine ⟨rfl, ?_⟩
  rcases h2 with ⟨h2, h3⟩ | ⟨g, cap, cur, hv, hg, hh, hc, hm, hs, ht⟩
  · left; cases h2; exact ⟨rfl, rfl⟩
  · right; cases hv; exact ⟨g, c, cur, rfl, hg, hh, by omega, hm, hs, by simp⟩
theorem own_full {w : World} {base : Nat} {E : TypeId} {ao : Option Addr} {n c : Nat} {xs : List Value} (h : w.ownsRow base E 1 (.slice ao n c) n xs) :
    n ≤ c ∧ c ≤ maxLen ∧ ∃ ys : List Value, ys.length = c - n ∧ w.ownsRow base E 1 (.slice ao c c) c (xs ++ ys) := by
  obtain ⟨h1, h2⟩ := h
  rcases h2 with ⟨h2, h3⟩ | ⟨g, cap, cur, hv, hg, hh, hc, hm, hs, ht⟩
  · cases h2
    have : xs = [] := List.eq_nil_of_length_eq_zero (by omega)
    subst this
    exact ⟨Nat.le_refl _, Nat.zero_le _, [], rfl, rfl, .inl ⟨rfl, rfl⟩⟩
  · cases hv
    rw [Nat.mul_one] at ht hs h1
    have hl : cur.toList.length = c := by simpa using hs
    have he : xs ++ cur.toList.drop n = cur.toList := by rw [← ht, List.take_append_drop]
    refine ⟨hc, hm, cur.toList.drop n, by simp; omega, by rw [he]; omega, .inr ⟨g, c, cur, rfl, hg, hh, Nat.le_refl _, hm, by omega, ?_⟩⟩
    rw [Nat.mul_one, he, List.take_of_length_le (by omega)]
/-- A whole row in one piece. -/
theorem own_some {w : World} {base : Nat} {E : TypeId} {ao : Option Addr} {n c : Nat} {xs : List Value} (h : w.ownsRow base E 1 (.slice ao n c) n xs) (h0 : 0 < c) : ∃ g, ao = some ⟨g, 0, none⟩ ∧ base ≤ g ∧ g < w.heap.size := by
  obtain ⟨h1, h2⟩ := h
  rcases h2 with ⟨h2, h3⟩ | ⟨g, cap, cur, hv, hg, hh, hc⟩
  · cases h2; omega
  · cases hv; exact ⟨g, rfl, hg, (Array.getElem?_eq_some_iff.1 hh).1⟩
theorem own_zero {w : World} {base : Nat} {E : TypeId} {ao : Option Addr} {n c : Nat} {xs : List Value} (h : w.ownsRow base E 1 (.slice ao n c) n xs) (h0 : ao = none) : n = 0 ∧ c = 0 := by
  obtain ⟨h1, h2⟩ := h
  rcases h2 with ⟨h2, h3⟩ | ⟨g, cap, cur, hv, hg, hh, hc⟩
  · cases h2; exact ⟨h3, rfl⟩
  · cases hv; cases h0
end Go.Proofs.YthackmkdicpdeaaGreat

/- Contracts of slices.Clone at []int and []int64; a row that a call owns, read as a list. -/
import Derived.Test.YtoippfoeghjdoaaArrMay
import Derived.Test.YtoippfoeghjdoaaShelf
import Derived.Lib.Walk
import Derived.Lib.SliceRun
import Derived.Laws.OwnMore
namespace Go.Proofs.Ytoippfoeghjdoaa
open Go.RowKit Go.Lib
set_option linter.unusedVariables false
set_option linter.unusedSimpArgs false
attribute [local go_sem] alloc_drewN setCell_drewN

theorem getD_map_int (zs : List Int) (i : Nat) (h : i < zs.length) : (zs.map (Value.int .i64))[i]? = some (.int .i64 (zs.getD i 0)) := by
  simp [List.getD, List.getElem?_eq_getElem h]
/-- The rows that a call owns read as lists. -/
theorem ls_own {w : World} {base : Nat} {E : TypeId} {v : Value} {n : Nat} {zs : List Int} (h : w.ownsRow base E 1 v n (zs.map (Value.int .i64))) (hb : n * 8 ≤ 140737488351232)
    (hr : ∀ i, -9223372036854775808 ≤ zs.getD i 0 ∧ zs.getD i 0 ≤ 9223372036854775807) : ∃ ao c, v = .slice ao n c ∧ Ls w ao n c zs := by
  have hl : zs.length = n := by have := h.1; simpa using this
  rcases h.2 with ⟨rfl, rfl⟩ | ⟨g, cap, cur, rfl, hbg, hg, hnc, hcm, hcs, htk⟩
  · exact ⟨none, 0, rfl, hl, Nat.le_refl _, hb, Nat.zero_le _, fun h => absurd h (by omega), hr⟩
  · refine ⟨_, cap, rfl, hl, hnc, hb, hcm, fun h0 => ⟨g, 0, rfl, ?_, fun i hi => ?_⟩, hr⟩
    · exact (Array.getElem?_eq_some_iff.1 hg).1
    · rw [Nat.zero_add]
      exact (h.cellAt i (by omega)).trans (getD_map_int zs i (by omega))
/-- The call hands back a copy: a row of its own that reads as zs. -/
def Cloned (w : World) (E : TypeId) (ao : Option Addr) (n : Nat) (zs : List Int) (e : Ending) (w' : World) : Prop :=
  ∃ ao' c', e = .returned (.slice ao' n c') ∧ Ls w' ao' n c' zs ∧ w'.ownsRow w.heap.size E 1 (.slice ao' n c') n (zs.map (Value.int .i64)) ∧ Below w.heap.size w w'
theorem cloned_of {w : World} {E : TypeId} {ao : Option Addr} {n : Nat} {zs : List Int} {e : Ending} {w' : World} {v' : Value} (he : e = .returned v') (hb : n * 8 ≤ 140737488351232)
    (hr : ∀ i, -9223372036854775808 ≤ zs.getD i 0 ∧ zs.getD i 0 ≤ 9223372036854775807) (h : w'.ownsRow w.heap.size E 1 v' n (zs.map (Value.int .i64))) (hB : Below w.heap.size w w') : Cloned w E ao n zs e w' := by
  obtain ⟨ao', c', rfl, hL⟩ := ls_own h hb hr
  exact ⟨ao', c', he, hL, h, hB⟩
set_option maxHeartbeats 2000000 in
set_option maxRecDepth 100000 in
theorem clone0_any (a : Addr) (c : Nat) (w : World) :
    Calls Try.prog 72 #[.slice (some a) 0 c] w fun e w' => ∃ v', e = .returned v' ∧ w'.ownsRow w.heap.size 3 1 v' 0 [] ∧ Below w.heap.size w w' := by
  obtain ⟨i0, hi, hz0, hz1, hz2⟩ := info_parts (P := Try.prog) (e := 3) (z := .int .i64 0) (size := 1) (bytes := 8) (by kernel_rfl)
  have q22 : ∀ (w : World) (a : Option Addr) (n c n' c' : Nat), (binOp .eql 25 (.slice a n c) (.slice none n' c')).run Try.prog w = .ok (.bool a.isNone) w := fun w a n c n' c' => Lib.run_eql_slice_nil w _ _ a n c n' c' Try.underlying25
  go_enter Try.func72, Try.ntmps72
  go_wp2_with (at_builtin; refine wpList_append_own _ rfl _ _ 25 rfl w.heap.size 3 i0 (.int .i64 0) 1 8 Try.underlying25 hi hz0 hz1 hz2 rfl (by decide) _ _ _ rfl (World.ownsRow_made w #[] 0 (Nat.le_refl _) (Nat.zero_le _) rfl) a 0 c [] rfl rfl (by intro j u hj; simp at hj) (by intro u hu; cases hu) (by unfold maxLen; omega) (by omega) (by simp) ?_)
  intro v' w1 hown hgrow hnil
  go_wp2
  go_ret
  refine ⟨v', rfl, by simpa using hown, ?_⟩
  exact ((Below.refl _ w).alloc (Nat.le_refl _) _).grown hgrow (by simp) (by intro k hk; simp [Value.ownBlock] at hk; omega)
theorem clone_any {w : World} {ao : Option Addr} {n c : Nat} {zs : List Int} (h : Ls w ao n c zs) :
    Calls Try.prog 72 #[.slice ao n c] w (Cloned w 3 ao n zs) := by
  by_cases h0 : n = 0
  · subst h0
    have hz : zs = [] := List.eq_nil_of_length_eq_zero h.len
    subst hz
    cases ao with
    | none =>
      refine (Try.slices_Clone_nil_f72 0 c w).mono ?_
      rintro e w' ⟨he, rfl⟩
      exact cloned_of he (by omega) h.rng (World.ownsRow_nil _ _ _ _) (Below.refl _ _)
    | some a =>
      refine (clone0_any a c w).mono ?_
      rintro e w' ⟨v', he, ho, hB⟩
      exact cloned_of he (by omega) h.rng ho hB
  · obtain ⟨b, off, rfl, hc⟩ := h.at (by omega)
    obtain ⟨i0, hi, hz0, hz1, hz2⟩ := info_parts (P := Try.prog) (e := 3) (z := .int .i64 0) (size := 1) (bytes := 8) (by kernel_rfl)
    have hb := h.big
    refine (Try.slices_Clone_f72 i0 (.int .i64 0) 1 8 hi hz0 hz1 hz2 rfl (by decide) (Try.sizeOf3) b off n c (zs.map (Value.int .i64)) w (by simp [h.len]) (by unfold maxLen; omega) (by omega) ?_ ?_).mono ?_
    · intro j u hj
      have hj' : j < zs.length := by
        rcases Nat.lt_or_ge j zs.length with h1 | h1
        · exact h1
        · rw [List.getElem?_eq_none (by simpa using h1)] at hj; cases hj
      rw [getD_map_int zs j hj'] at hj
      cases hj
      exact hc j (by have := h.len; omega)
    · intro u hu
      obtain ⟨x, _, rfl⟩ := List.mem_map.1 hu
      rfl
    · rintro e w' ⟨v', he, ho, _, hB⟩
      exact cloned_of he hb h.rng ho hB
end Go.Proofs.Ytoippfoeghjdoaa

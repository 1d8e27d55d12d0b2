/- Contracts of slices.Grow at nil, slices.Concat of two lists, slices.Repeat of the list of a 1. -/
import Derived.Test.YtoippfoeghjdoaaMerge
import Derived.Test.YtoippfoeghjdoaaShapeCover
import Derived.Lib.AppendZerosOnto
import Derived.Laws.CopyOwn
import Derived.Deep.RegionLaw
namespace Go.Proofs.Ytoippfoeghjdoaa
open Go.RowKit Go.Lib
set_option linter.unusedVariables false
set_option linter.unusedSimpArgs false
attribute [local go_sem] alloc_drewN setCell_drewN
/-- A row of the call's own with no element yet. -/
def Roomy (w : World) (e : Ending) (w' : World) : Prop := ∃ ao c, e = .returned (.slice ao 0 c) ∧ w'.ownsRow w.heap.size 3 1 (.slice ao 0 c) 0 [] ∧ Below w.heap.size w w'
set_option maxRecDepth 100000 in
set_option maxHeartbeats 1600000 in
theorem grow_nil (n : Nat) (hn : n ≤ 2000000) (w : World) : Calls Try.prog 97 #[.slice none 0 0, .int .i64 n] w (Roomy w) := by
  have y0 : ¬ ((n : Int) < 0) := by omega
  have y1 : IntKind.i64.wrap ((0 : Int) - 0) = 0 := IntWalk.i64_in _ (by omega)
  have y2 : IntKind.i64.wrap ((n : Int) - 0) = n := by rw [Int.sub_zero]; exact IntWalk.i64_in _ (by omega)
  by_cases h0 : n = 0
  · subst h0
    go_enter Try.func97, Try.ntmps97
    go_wp2
    go_ret
    exact ⟨none, 0, rfl, World.ownsRow_nil _ _ _ _, Below.refl _ _⟩
  · have hp : (0 : Int) < n := by omega
    obtain ⟨i0, hi0, hz0, hz1, hz2⟩ := info_parts (P := Try.prog) (e := 3) (z := .int .i64 0) (size := 1) (bytes := 8) (by kernel_rfl)
    have hfc := run_firstCells_none (P := Try.prog) w.drew i0.size 0 0 0
    have hfit : Builtin.nextslicecap (0 + n) 0 * i0.bytes ≤ 281474976710656 := by
      rw [hz2]; exact growslice_fits (show 0 < 0 + n by omega) (by omega)
    have hrun := fun ty => run_append_grow_zeros (P := Try.prog) w 25 3 ty 3 i0 (.int .i64 0) .i64 .i64 Try.underlying25 Try.underlying3 hi0 hz0 none 0 0 [] hfc n (by omega) (by rw [hz1]; decide) (by omega) (by omega) (by rw [hz2]; omega) hfit
    have hG := grownCap_ge w (0 + n) 0 3
    have hG2 := grownCap_le_maxLen w (0 + n) 0 3 (by unfold maxLen; omega)
    obtain ⟨G, HGG⟩ : ∃ G, Hid (grownCap w (0 + n) 0 3 = G) := ⟨_, rfl⟩
    rw [HGG.out] at hrun hG hG2
    rw [Nat.zero_add] at hrun hG
    have hn0 : n ≠ 0 := h0
    obtain ⟨cs, HCS⟩ : ∃ cs, Hid (([] : List Value).toArray ++ Builtin.zeroCells (Value.int .i64 0).cells n ++ Builtin.zeroCells (Value.int .i64 0).cells (G - n) = cs) := ⟨_, rfl⟩
    rw [HCS.out] at hrun
    have hcs : cs.size = G * 1 := by
      rw [← HCS.out]
      simp only [Array.size_append, Builtin.zeroCells, Value.cells]
      simp
      omega
    have HF : Hid (Roomy w (.returned (.slice (some ⟨w.heap.size, 0, none⟩) 0 G)) (w.drew.alloc (.cells cs 3))) := ⟨_, _, rfl, ⟨rfl, .inr ⟨w.heap.size, G, cs, rfl, Nat.le_refl _, heap_alloc_new w.drew _, Nat.zero_le _, hG2, hcs, by simp⟩⟩, (Below.refl _ _).drew.alloc (Nat.le_refl _) _⟩
    have y3 : (0 : Int) ≤ G := by omega
    have y4 : ((n : Nat) : Int) ≤ G := by omega
    unfold maxLen at hG2
    clear hcs hfit hfc HCS
    go_enter Try.func97, Try.ntmps97
    go_wp2_with (at_builtin; refine Lib.wpList_append_run _ rfl _ _ _ _ rfl _ _ rfl rfl _ _ (hrun _) ?_)
    all_goals (go_ret; exact HF.out)
theorem Roomy.ls {w w' : World} {ao : Option Addr} {n c : Nat} {zs : List Int} (h : Ls w ao n c zs) (hb : Below w.heap.size w w') : Ls w' ao n c zs := h.below hb (Nat.le_refl _)
theorem app_rng {s t : List Int} (hs : ∀ i, -9223372036854775808 ≤ s.getD i 0 ∧ s.getD i 0 ≤ 9223372036854775807) (ht : ∀ i, -9223372036854775808 ≤ t.getD i 0 ∧ t.getD i 0 ≤ 9223372036854775807) (i : Nat) : -9223372036854775808 ≤ (s ++ t).getD i 0 ∧ (s ++ t).getD i 0 ≤ 9223372036854775807 := by
  by_cases h : i < s.length
  · have := hs i; simpa [List.getD, List.getElem?_append_left h] using this
  · have := ht (i - s.length); simpa [List.getD, List.getElem?_append_right (Nat.le_of_not_lt h)] using this
set_option maxRecDepth 100000 in
set_option maxHeartbeats 1600000 in
theorem concat_two {w : World} {b : Nat} {a1 a2 : Option Addr} {n1 c1 n2 c2 : Nat} {s t : List Int} (hb : b < w.heap.size) (hc0 : w.cell? ⟨b, 0, none⟩ = some (.slice a1 n1 c1)) (hc1 : w.cell? ⟨b, 1, none⟩ = some (.slice a2 n2 c2)) (h1 : Ls w a1 n1 c1 s) (h2 : Ls w a2 n2 c2 t) (hn1 : n1 ≤ 1000000) (hn2 : n2 ≤ 1000000) :
    Calls Try.prog 78 #[.slice (some ⟨b, 0, none⟩) 2 2] w (MadeL w (s ++ t)) := by
  obtain ⟨i0, hi0, hz0, hz1, hz2⟩ := info_parts (P := Try.prog) (e := 3) (z := .int .i64 0) (size := 1) (bytes := 8) (by kernel_rfl)
  have CG := Lib.hid (grow_nil (n1 + n2) (by omega) w)
  have CG' : Hid (Calls Try.prog 97 #[.slice none 0 0, .int .i64 ((n1 : Int) + n2)] w (Roomy w)) := by have := CG.out; push_cast at this; exact this
  have H1 := Lib.hid h1
  have H2 := Lib.hid h2
  have z1 : IntKind.i64.wrap ((0 : Int) + n1) = n1 := by rw [Int.zero_add]; exact IntWalk.i64_in _ (by omega)
  have z2 : IntKind.i64.wrap ((n1 : Int) + n2) = n1 + n2 := IntWalk.i64_in _ (by omega)
  have z3 : ¬ ((n1 : Int) < 0) := by omega
  have z4 : ¬ ((n1 : Int) + n2 < 0) := by omega
  have HB := Lib.hid hb
  have k1 : (n1 + n2) * 8 ≤ 140737488355328 := by omega
  have k2 : (0 + n1) * 8 ≤ 140737488355328 := by omega
  have k3 : (n1 + n2) * 8 ≤ 140737488355328 := by omega
  clear h1 h2 CG hb
  go_enter Try.func78, Try.ntmps78
  go_wp2_with fail
  refine wp_loop_rounds 3 ?_
  iterate 3 (rw [rounds_succ]; go_wp2_with fail)
  refine CG'.out.mono ?_; rintro e' w1 ⟨ao, c, rfl, hO1, hB1⟩
  have d0 := (hB1.cell (p := ⟨b, 0, none⟩) HB.out).trans hc0
  have d1 := (hB1.cell (p := ⟨b, 1, none⟩) HB.out).trans hc1
  have HL1 := Lib.hid (H1.out.below hB1 (Nat.le_refl _))
  have HO1 := Lib.hid hO1
  have HB1 := Lib.hid hB1
  clear hO1 hB1
  go_wp2_with fail
  refine wp_loop_rounds 3 ?_
  rw [rounds_succ]
  go_wp2_with (at_builtin; refine wpList_append_loc w1 rfl _ _ 25 rfl w.heap.size 3 i0 Try.underlying25 hi0 hz0 hz1 hz2 _ 0 [] rfl HO1.out rfl HL1.out k2 HB1.out.size ?_)
  intro bo d w2 hO2 hg2 hl2 hn2
  have hB2 : Below w.heap.size w w2 := HB1.out.grown hg2 HB1.out.size fun k hk => (own_block HO1.out hk).1
  have e1 := (hB2.cell (p := ⟨b, 1, none⟩) HB.out).trans hc1
  have HL2 := Lib.hid (H2.out.below hB2 (Nat.le_refl _))
  have HO2 := Lib.hid hO2
  have HB2 := Lib.hid hB2
  have k4 := hB2.size
  clear hO2 hB2 hg2 hl2 hn2 d0 d1
  go_wp2_with fail
  rw [rounds_succ]
  go_wp2_with (at_builtin; refine wpList_append_loc w2 rfl _ _ 25 rfl w.heap.size 3 i0 Try.underlying25 hi0 hz0 hz1 hz2 _ n1 s rfl HO2.out rfl HL2.out k3 HB2.out.size ?_)
  intro co d' w3 hO3 hg3 hl3 hn3
  rw [← List.map_append] at hO3
  have HF : Hid (MadeL w (s ++ t) (.returned (.slice co (n1 + n2) d')) w3) := by
    refine ⟨_, _, _, rfl, ?_, ?_, HB2.out.grown hg3 HB2.out.size fun k hk => (own_block HO2.out hk).1⟩
    · exact ls_of_own hO3 (by omega) (app_rng H1.out.rng H2.out.rng)
    · exact hO3
  clear hO3 hg3 hl3 hn3
  go_wp2_with fail
  rw [rounds_succ]
  go_wp2_with fail
  all_goals (go_ret; exact HF.out)
theorem splice_ones {N n m : Nat} (h : n + m ≤ N) : splice ((List.replicate n (1 : Int) ++ List.replicate (N - n) 0).map (Value.int .i64)) n ((List.replicate m (1 : Int)).map (Value.int .i64)) = (List.replicate (n + m) (1 : Int) ++ List.replicate (N - (n + m)) 0).map (Value.int .i64) := by
  unfold splice
  rw [← List.map_take, ← List.map_drop, ← List.map_append, ← List.map_append]
  congr 1
  rw [List.take_left' (by simp), List.length_map, List.length_replicate, ← List.append_assoc, List.replicate_append_replicate]
  congr 1
  rw [List.drop_append, List.length_replicate, List.drop_of_length_le (by simp), List.nil_append, List.drop_replicate]
  congr 1
  omega
end Go.Proofs.Ytoippfoeghjdoaa

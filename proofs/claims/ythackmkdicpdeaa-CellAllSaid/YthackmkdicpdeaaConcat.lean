/- Contracts of slices.Grow at nil, slices.Concat of two lists, slices.Repeat of the list of a 1. -/
import Derived.Test.YthackmkdicpdeaaMerge
import Derived.Test.YthackmkdicpdeaaShapeCover
import Derived.Lib.AppendZerosOnto
import Derived.Laws.CopyOwn
import Derived.Deep.RegionLaw
namespace Go.Proofs.Ythackmkdicpdeaa
open Go.RowKit Go.Lib
set_option linter.unusedVariables false
set_option linter.unusedSimpArgs false
attribute [local go_sem] alloc_drewN setCell_drewN
/-- A row of the call's own with no element yet. -/
def Roomy (w : World) (e : Ending) (w' : World) : Prop := ∃ ao c, e = .returned (.slice ao 0 c) ∧ w'.ownsRow w.heap.size 3 1 (.slice ao 0 c) 0 [] ∧ Below w.heap.size w w'
set_option maxRecDepth 100000 in
set_option maxHeartbeats 1600000 in
theorem grow_nil (n : Nat) (hn : n ≤ 2000000) (w : World) : Calls Try.prog 89 #[.slice none 0 0, .int .i64 n] w (Roomy w) := by
  have y0 : ¬ ((n : Int) < 0) := by omega
  have y1 : IntKind.i64.wrap ((0 : Int) - 0) = 0 := IntWalk.i64_in _ (by omega)
  have y2 : IntKind.i64.wrap ((n : Int) - 0) = n := by rw [Int.sub_zero]; exact IntWalk.i64_in _ (by omega)
  by_cases h0 : n = 0
  · subst h0
    go_enter Try.func89, Try.ntmps89
    go_wp2
    go_ret
    exact ⟨none, 0, rfl, World.ownsRow_nil _ _ _ _, Below.refl _ _⟩
  · have hp : (0 : Int) < n := by omega
    obtain ⟨i0, hi0, hz0, hz1, hz2⟩ := info_parts (P := Try.prog) (e := 3) (z := .int .i64 0) (size := 1) (bytes := 8) (by kernel_rfl)
    have hfc := run_firstCells_none (P := Try.prog) w.drew i0.size 0 0 0
    have hfit : Builtin.nextslicecap (0 + n) 0 * i0.bytes ≤ 281474976710656 := by
      rw [hz2]; exact growslice_fits (show 0 < 0 + n by omega) (by omega)
    have hrun := fun ty => run_append_grow_zeros (P := Try.prog) w 25 3 ty 3 i0 (.int .i64 0) .i64 .i64 Try.underlying25 Try.underlying3 hi0 hz0 none 0 0 [] hfc n (by omega) (by rw [hz1]; decide) (by omega) (by omega) (by rw [hz2]; omega) hfit
    have hG := grownCap_ge w (0 + n) 0 3
    have hG2 := grownCap_le_maxLen w (0 + n) 0 3 (by unfold maxLen; omega)
    obtain ⟨G, HGG⟩ : ∃ G, Hid (grownCap w (0 + n) 0 3 = G) := ⟨_, rfl⟩
    rw [HGG.out] at hrun hG hG2
    rw [Nat.zero_add] at hrun hG
    have hn0 : n ≠ 0 := h0
    obtain ⟨cs, HCS⟩ : ∃ cs, Hid (([] : List Value).toArray ++ Builtin.zeroCells (Value.int .i64 0).cells n ++ Builtin.zeroCells (Value.int .i64 0).cells (G - n) = cs) := ⟨_, rfl⟩
    rw [HCS.out] at hrun
    have hcs : cs.size = G * 1 := by
      rw [← HCS.out]
      simp only [Array.size_append, Builtin.zeroCells, Value.cells]
      simp
      omega
    have HF : Hid (Roomy w (.returned (.slice (some ⟨w.heap.size, 0, none⟩) 0 G)) (w.drew.alloc (.cells cs 3))) := ⟨_, _, rfl, ⟨rfl, .inr ⟨w.heap.size, G, cs, rfl, Nat.le_refl _, heap_alloc_new w.drew _, Nat.zero_le _, hG2, hcs, by simp⟩⟩, (Below.refl _ _).drew.alloc (Nat.le_refl _) _⟩
    have y3 : (0 : Int) ≤ G := by omega
    have y4 : ((n : Nat) : Int) ≤ G := by omega
    unfold maxLen at hG2
    clear hcs hfit hfc HCS
    go_enter Try.func89, Try.ntmps89
    go_wp2_with (at_builtin; refine Lib.wpList_append_run _ rfl _ _ _ _ rfl _ _ rfl rfl _ _ (hrun _) ?_)
    all_goals (go_ret; exact HF.out)
theorem Roomy.ls {w w' : World} {ao : Option Addr} {n c : Nat} {zs : List Int} (h : Ls w ao n c zs) (hb : Below w.heap.size w w') : Ls w' ao n c zs := h.below hb (Nat.le_refl _)
theorem app_rng {s t : List Int} (hs : ∀ i, -9223372036854775808 ≤ s.getD i 0 ∧ s.getD i 0 ≤ 9223372036854775807) (ht : ∀ i, -9223372036854775808 ≤ t.getD i 0 ∧ t.getD i 0 ≤ 9223372036854775807) (i : Nat) : -9223372036854775808 ≤ (s ++ t).getD i 0 ∧ (s ++ t).getD i 0 ≤ 9223372036854775807 := by
  by_cases h : i < s.length
  · have := hs i; simpa [List.getD, List.getElem?_append_left h] using this
  · have := ht (i - s.length); simpa [List.getD, List.getElem?_append_right (Nat.le_of_not_lt h)] using this
set_option maxRecDepth 100000 in
set_option maxHeartbeats 1600000 in
theorem concat_two {w : World} {b : Nat} {a1 a2 : Option Addr} {n1 c1 n2 c2 : Nat} {s t : List Int} (hb : b < w.heap.size) (hc0 : w.cell? ⟨b, 0, none⟩ = some (.slice a1 n1 c1)) (hc1 : w.cell? ⟨b, 1, none⟩ = some (.slice a2 n2 c2)) (h1 : Ls w a1 n1 c1 s) (h2 : Ls w a2 n2 c2 t) (hn1 : n1 ≤ 1000000) (hn2 : n2 ≤ 1000000) :
    Calls Try.prog 69 #[.slice (some ⟨b, 0, none⟩) 2 2] w (MadeL w (s ++ t)) := by
  obtain ⟨i0, hi0, hz0, hz1, hz2⟩ := info_parts (P := Try.prog) (e := 3) (z := .int .i64 0) (size := 1) (bytes := 8) (by kernel_rfl)
  have CG := Lib.hid (grow_nil (n1 + n2) (by omega) w)
  have CG' : Hid (Calls Try.prog 89 #[.slice none 0 0, .int .i64 ((n1 : Int) + n2)] w (Roomy w)) := by have := CG.out; push_cast at this; exact this
  have H1 := Lib.hid h1
  have H2 := Lib.hid h2
  have z1 : IntKind.i64.wrap ((0 : Int) + n1) = n1 := by rw [Int.zero_add]; exact IntWalk.i64_in _ (by omega)
  have z2 : IntKind.i64.wrap ((n1 : Int) + n2) = n1 + n2 := IntWalk.i64_in _ (by omega)
  have z3 : ¬ ((n1 : Int) < 0) := by omega
  have z4 : ¬ ((n1 : Int) + n2 < 0) := by omega
  have HB := Lib.hid hb
  have k1 : (n1 + n2) * 8 ≤ 140737488355328 := by omega
  have k2 : (0 + n1) * 8 ≤ 140737488355328 := by omega
  have k3 : (n1 + n2) * 8 ≤ 140737488355328 := by omega
  clear h1 h2 CG hb
  go_enter Try.func69, Try.ntmps69
  go_wp2_with fail
  refine wp_loop_rounds 3 ?_
  iterate 3 (rw [rounds_succ]; go_wp2_with fail)
  refine CG'.out.mono ?_; rintro e' w1 ⟨ao, c, rfl, hO1, hB1⟩
  have d0 := (hB1.cell (p := ⟨b, 0, none⟩) HB.out).trans hc0
  have d1 := (hB1.cell (p := ⟨b, 1, none⟩) HB.out).trans hc1
  have HL1 := Lib.hid (H1.out.below hB1 (Nat.le_refl _))
  have HO1 := Lib.hid hO1
  have HB1 := Lib.hid hB1
  clear hO1 hB1
  go_wp2_with fail
  refine wp_loop_rounds 3 ?_
  rw [rounds_succ]
  go_wp2_with (at_builtin; refine wpList_append_loc w1 rfl _ _ 25 rfl w.heap.size 3 i0 Try.underlying25 hi0 hz0 hz1 hz2 _ 0 [] rfl HO1.out rfl HL1.out k2 HB1.out.size ?_)
  intro bo d w2 hO2 hg2 hl2 hn2
  have hB2 : Below w.heap.size w w2 := HB1.out.grown hg2 HB1.out.size fun k hk => (own_block HO1.out hk).1
  have e1 := (hB2.cell (p := ⟨b, 1, none⟩) HB.out).trans hc1
  have HL2 := Lib.hid (H2.out.below hB2 (Nat.le_refl _))
  have HO2 := Lib.hid hO2
  have HB2 := Lib.hid hB2
  have k4 := hB2.size
  clear hO2 hB2 hg2 hl2 hn2 d0 d1
  go_wp2_with fail
  rw [rounds_succ]
  go_wp2_with (at_builtin; refine wpList_append_loc w2 rfl _ _ 25 rfl w.heap.size 3 i0 Try.underlying25 hi0 hz0 hz1 hz2 _ n1 s rfl HO2.out rfl HL2.out k3 HB2.out.size ?_)
  intro co d' w3 hO3 hg3 hl3 hn3
  rw [← List.map_append] at hO3
  have HF : Hid (MadeL w (s ++ t) (.returned (.slice co (n1 + n2) d')) w3) := by
    refine ⟨_, _, _, rfl, ?_, ?_, HB2.out.grown hg3 HB2.out.size fun k hk => (own_block HO2.out hk).1⟩
    · exact ls_of_own hO3 (by omega) (app_rng H1.out.rng H2.out.rng)
    · exact hO3
  clear hO3 hg3 hl3 hn3
  go_wp2_with fail
  rw [rounds_succ]
  go_wp2_with fail
  all_goals (go_ret; exact HF.out)
theorem splice_ones {N n m : Nat} (h : n + m ≤ N) : splice ((List.replicate n (1 : Int) ++ List.replicate (N - n) 0).map (Value.int .i64)) n ((List.replicate m (1 : Int)).map (Value.int .i64)) = (List.replicate (n + m) (1 : Int) ++ List.replicate (N - (n + m)) 0).map (Value.int .i64) := by
  unfold splice
  rw [← List.map_take, ← List.map_drop, ← List.map_append, ← List.map_append]
  congr 1
  rw [List.take_left' (by simp), List.length_map, List.length_replicate, ← List.append_assoc, List.replicate_append_replicate]
  congr 1
  rw [List.drop_append, List.length_replicate, List.drop_of_length_le (by simp), List.nil_append, List.drop_replicate]
  congr 1
  omega
set_option maxRecDepth 100000 in
set_option maxHeartbeats 1600000 in
theorem repeat_one {w : World} {g N : Nat} (hg : g < w.heap.size) (hc : w.cell? ⟨g, 0, none⟩ = some (.int .i64 1)) (hN : N ≤ 5000) : Calls Try.prog 90 #[.slice (some ⟨g, 0, none⟩) 1 1, .int .i64 N] w (MadeL w (List.replicate N 1)) := by
  have hmk := fun w => mk_int N (by omega) w
  have hM : Hid (Calls Try.prog 99 #[.int .u64 1, .int .u64 N] w (RetS w (.tuple #[.int .u64 0, .int .u64 N]))) := by
    have h := Try.bits_Mul 1 N (by omega) (by omega) w
    rw [Nat.one_mul, Nat.div_eq_of_lt (by omega), Nat.mod_eq_of_lt (by omega)] at h
    exact h
  have y0 : ¬ ((N : Int) < 0) := by omega
  have y1 : ¬ ((N : Int) > 9223372036854775807) := by omega
  have HG := Lib.hid hg
  have HO0 := Lib.hid (own_zeros w 3 N w.heap.size (by omega) (Nat.le_refl _))
  have HI : Hid ((P : Program) → True) := fun _ => trivial
  have hsz1 : (Try.prog.info? 3).map (·.size) = some 1 := by kernel_rfl
  have hgR : ((w.alloc (.cells (Array.replicate N (.int .i64 0)) 3))).heap[w.heap.size]? = some (.cells (((List.replicate 0 (1 : Int) ++ List.replicate (N - 0) 0).map (Value.int .i64)).toArray) 3 (0, 0)) := by
    rw [heap_alloc_new]; simp
  obtain ⟨W, HWW⟩ : ∃ W, Hid (w.alloc (.cells (Array.replicate N (.int .i64 0)) 3) = W) := ⟨_, rfl⟩
  have HBW : Hid (Below w.heap.size w W) := by show Below _ _ _; rw [← HWW.out]; exact (Below.refl _ _).alloc (Nat.le_refl _) _
  rw [HWW.out] at hgR
  have HGR := Lib.hid hgR
  have hcW : W.cell? ⟨g, 0, none⟩ = some (.int .i64 1) := (HBW.out.cell (p := ⟨g, 0, none⟩) HG.out).trans hc
  obtain ⟨cs, HCS⟩ : ∃ cs, Hid ((List.replicate (min 1 N) (1 : Int)).map (Value.int .i64) = cs) := ⟨_, rfl⟩
  have hcl : cs.length = min 1 N := by rw [← HCS.out]; simp
  have hcn : cs.length = Nat.min 1 N := hcl
  obtain ⟨cur, HCU⟩ : ∃ cur : List Value, Hid ((List.replicate 0 (1 : Int) ++ List.replicate (N - 0) (0 : Int)).map (Value.int .i64) = cur) := ⟨_, rfl⟩
  have hul : cur.length = N := by rw [← HCU.out]; simp
  rw [HCU.out] at HGR
  have HP : Hid (0 < cs.length → ∃ ad, (some (⟨g, 0, none⟩ : Addr)) = some ad ∧ ∀ j v, cs[j]? = some v → W.cell? (ad.add j) = some v) := fun _ => ⟨_, rfl, fun j v hj => by
    have hj' : j < cs.length := (List.getElem?_eq_some_iff.1 hj).1
    obtain rfl : j = 0 := by omega
    rw [← HCS.out, List.getElem?_map, List.getElem?_replicate, if_pos (by omega)] at hj
    simp at hj
    subst hj
    exact hcW⟩
  have h1c : Hid (∀ v ∈ cs, v.oneCell' = true) := fun v hv => by rw [← HCS.out] at hv; obtain ⟨x, -, rfl⟩ := List.mem_map.1 hv; rfl
  have hfit : 0 + cs.length ≤ cur.length := by omega
  have HSP : Hid (splice cur 0 cs = (List.replicate (min 1 N) (1 : Int) ++ List.replicate (N - min 1 N) 0).map (Value.int .i64)) := by
    show _ = _
    rw [← HCU.out, ← HCS.out]
    have := splice_ones (N := N) (n := 0) (m := min 1 N) (by omega)
    rwa [Nat.zero_add] at this
  clear hg hgR hcl hcW HI
  go_enter Try.func90, Try.ntmps90
  go_wp2_with fail
  refine hM.out.mono ?_; rintro e w1 ⟨rfl, hw⟩
  have hw' := hw.symm
  subst hw'
  go_upto_region 7 with fail
  go_wp2_with (refine wpList_copy_splice rfl (.tmp 31) (.tmp 32) 25 25 rfl 3 Try.underlying25 hsz1 (some ⟨w.heap.size, 0, none⟩) (some ⟨g, 0, none⟩) N N 1 1 rfl rfl w.heap.size 0 cur 3 (by rw [HWW.out]; exact HGR.out) cs hcn (by rw [HWW.out]; exact fun h => ⟨rfl, HP.out h⟩) hfit h1c.out w.heap.size w (by rw [HWW.out]; exact HBW.out) (Nat.le_refl _) ?_)
  intro w2 hR2 hB2
  have HR2 : Hid (w2.heap[w.heap.size]? = some (.cells (((List.replicate (min 1 N) (1 : Int) ++ List.replicate (N - min 1 N) 0).map (Value.int .i64)).toArray) 3 (0, 0))) := by show _ = _; rw [← HSP.out]; exact hR2.out
  have HB2 := Lib.hid hB2
  have hcl2 : cs.length = min 1 N := by rw [← HCS.out]; simp
  clear hR2 hB2 HSP HP h1c hfit hcn hul
  go_wp2_with fail
  go_loopw [8] (fun v wr => ∃ k : Nat, k ≤ N ∧ min 1 N ≤ k ∧ v = .int .i64 k ∧ Hid (wr.heap[w.heap.size]? = some (.cells (((List.replicate k (1 : Int) ++ List.replicate (N - k) 0).map (Value.int .i64)).toArray) 3 (0, 0))) ∧ Hid (Below w.heap.size w wr)) (fun v _ => N - (RowKit.intOf v).toNat)
  case atStart => exact ⟨min 1 N, by omega, Nat.le_refl _, rfl, HR2, HB2⟩
  case round =>
    obtain ⟨k, hk, hk1, rfl, HR, HB⟩ := hrel
    by_cases hlt : k < N
    · have hlt' : (k : Int) < N := by omega
      have g1 : (0 : Int) ≤ k := by omega
      have g2 : (k : Int) ≤ N := by omega
      have g3 : ¬ N = k := by omega
      have g4 : (N : Int) - k = (N - k : Nat) := by omega
      obtain ⟨m, hm⟩ : ∃ m, m = min k (N - k) := ⟨_, rfl⟩
      obtain ⟨cs2, HCS2⟩ : ∃ cs2 : List Value, Hid ((List.replicate m (1 : Int)).map (Value.int .i64) = cs2) := ⟨_, rfl⟩
      have hl2 : cs2.length = m := by rw [← HCS2.out]; simp
      have hn2 : cs2.length = Nat.min k (N - k) := by rw [hl2]; exact hm
      obtain ⟨cu2, HCU2⟩ : ∃ cu2 : List Value, Hid ((List.replicate k (1 : Int) ++ List.replicate (N - k) (0 : Int)).map (Value.int .i64) = cu2) := ⟨_, rfl⟩
      have hu2 : cu2.length = N := by rw [← HCU2.out, List.length_map, List.length_append, List.length_replicate, List.length_replicate]; omega
      have HSP2 : Hid (splice cu2 k cs2 = (List.replicate (k + m) (1 : Int) ++ List.replicate (N - (k + m)) 0).map (Value.int .i64)) := by
        show _ = _
        rw [← HCU2.out, ← HCS2.out]
        exact splice_ones (by omega)
      have HOW : Hid (wr.ownsRow w.heap.size 3 1 (.slice (some ⟨w.heap.size, 0, none⟩) N N) N ((List.replicate k (1 : Int) ++ List.replicate (N - k) (0 : Int)).map (Value.int .i64))) := ⟨by rw [List.length_map, List.length_append, List.length_replicate, List.length_replicate]; omega, .inr ⟨w.heap.size, N, _, rfl, Nat.le_refl _, HR.out, Nat.le_refl _, by unfold maxLen; omega, by rw [List.size_toArray, List.length_map, List.length_append, List.length_replicate, List.length_replicate]; omega, by rw [List.take_of_length_le]; rw [Nat.mul_one, List.length_map, List.length_append, List.length_replicate, List.length_replicate]; omega⟩⟩
      have HP2 : Hid (0 < cs2.length → ∃ ad, (some (⟨w.heap.size, 0, none⟩ : Addr)) = some ad ∧ ∀ j v, cs2[j]? = some v → wr.drew.cell? (ad.add j) = some v) := fun _ => ⟨_, rfl, fun j v hj => by
        have hj' : j < cs2.length := (List.getElem?_eq_some_iff.1 hj).1
        rw [← HCS2.out, List.getElem?_map, List.getElem?_replicate, if_pos (by omega)] at hj
        have hcell : wr.drew.cell? ⟨w.heap.size, 0 + j, none⟩ = some (.int .i64 1) := by
          rw [Nat.zero_add]
          refine (HOW.out.cellAt j (by omega)).trans ?_
          rw [List.getElem?_map, List.getElem?_append_left (by rw [List.length_replicate]; omega), List.getElem?_replicate, if_pos (by omega)]
          rfl
        rw [← hj, Addr.add_lit]
        exact hcell⟩
      have h1c : Hid (∀ v ∈ cs2, v.oneCell' = true) := fun v hv => by rw [← HCS2.out] at hv; obtain ⟨x, -, rfl⟩ := List.mem_map.1 hv; rfl
      have hfit : k + cs2.length ≤ cu2.length := by omega
      have HR' : Hid (wr.drew.heap[w.heap.size]? = some (.cells cu2.toArray 3 (0, 0))) := by show _ = _; rw [← HCU2.out]; exact HR.out
      have HBD : Hid (Below w.heap.size w wr.drew) := HB.out.drew
      have z1 : IntKind.i64.wrap ((k : Int) + ((min k (N - k) : Nat) : Int)) = (k + min k (N - k) : Nat) := by rw [← Int.natCast_add]; exact IntWalk.i64_in _ (by omega)
      rw [hm] at HSP2
      go_wp2_with fail
      go_region_law (refine step_copy_splice (by rfl) (.tmp 41) (.tmp 44) 25 25 (by rfl) 3 Try.underlying25 hsz1 (some ⟨w.heap.size, k, none⟩) (some ⟨w.heap.size, 0, none⟩) (N - k) (N - k) k N (by kernel_rfl) (by kernel_rfl) w.heap.size k cu2 3 HR'.out cs2 hn2 (fun h => ⟨rfl, HP2.out h⟩) hfit h1c.out w.heap.size w HBD.out (Nat.le_refl _) ?_; intro w4 hg4 hb4)
      have HR4 : Hid (w4.heap[w.heap.size]? = some (.cells (((List.replicate (k + min k (N - k)) (1 : Int) ++ List.replicate (N - (k + min k (N - k))) 0).map (Value.int .i64)).toArray) 3 (0, 0))) := by show _ = _; rw [← HSP2.out]; exact hg4.out
      have HB4 := Lib.hid hb4
      clear hg4 hb4
      go_simp
      go_wp2_with fail
      go_roundw
      case rel => exact ⟨k + min k (N - k), by omega, by omega, by first | rfl | exact intv z1 | exact intv (by push_cast; rfl), HR4, HB4⟩
      case measure => simp [RowKit.intOf]; omega
    · obtain rfl : k = N := by omega
      have hout := HR.out
      rw [Nat.sub_self, List.replicate_zero, List.append_nil] at hout
      have HF : Hid (MadeL w (List.replicate k 1) (.returned (.slice (some ⟨w.heap.size, 0, none⟩) k k)) wr) := by
        have hO : wr.ownsRow w.heap.size 3 1 (.slice (some ⟨w.heap.size, 0, none⟩) k k) k ((List.replicate k (1 : Int)).map (Value.int .i64)) := ⟨by simp, .inr ⟨w.heap.size, k, _, rfl, Nat.le_refl _, hout, Nat.le_refl _, by unfold maxLen; omega, by simp, by simp⟩⟩
        exact ⟨_, _, _, rfl, ls_of_own hO (by omega) (fun i => by simp only [List.getD, List.getElem?_replicate]; split <;> simp), hO, HB.out⟩
      clear hout
      have hge : ¬ ((k : Int) < k) := by omega
      go_wp2
      go_ret
      exact HF.out
end Go.Proofs.Ythackmkdicpdeaa

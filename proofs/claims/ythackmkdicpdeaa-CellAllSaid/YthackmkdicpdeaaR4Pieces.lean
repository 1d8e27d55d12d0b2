/- Contract of the document's Pieces (printed by gen_r4pieces.py). -/
import Derived.Test.YthackmkdicpdeaaR4Part
namespace Go.Proofs.Ythackmkdicpdeaa
open Go.RowKit Go.Lib
set_option linter.unusedVariables false
set_option linter.unusedSimpArgs false
attribute [local go_sem] alloc_drewN setCell_drewN
theorem may_bdR {s : List Int} (hm : mayE s = 0) (i : Nat) : 0 ≤ s.getD i 0 ∧ s.getD i 0 ≤ 4096 := by
  obtain ⟨g1, g2, g3⟩ := mayE_zero hm
  refine ⟨g1 i, ?_⟩
  have q1 := (pm_up s i).2.2
  have q2 := pm_all s (i + 1)
  omega
theorem field_shapeR (x y : Value) (w : World) : (Instr.field 45 (.agg #[x, y]) 0).run Try.prog w = .ok x w := by simp [Instr.field, go_sem, asAgg]
attribute [local go_sem] field_shapeR
set_option maxHeartbeats 1600000 in
theorem rpieces_bad {w : World} {A : Ar} (hA : A.Is w) (n : Int) (hm : amE A.s A.a ≠ 0)  : Calls Try.prog 45 #[A.v, .int .i64 n] w (PiecesP w [] [] [] 1) := by
  obtain ⟨sa, sn, sc, aa, an, ac, s, a⟩ := A
  simp only [Ar.v] at hm ⊢
  obtain ⟨W, HW⟩ : ∃ z, Hid ((w.alloc (.cells #[.slice sa sn sc, .slice aa an ac] 45)).alloc (.cells #[.slice none 0 0, .slice none 0 0] 45) = z) := ⟨_, rfl⟩
  have h0 := ((Sp.start Non w).alloc 45 2 1 #[.slice sa sn sc, .slice aa an ac] rfl (by decide)).alloc 45 2 1 #[.slice none 0 0, .slice none 0 0] rfl (by decide)
  rw [HW.out] at h0
  have H0_ := h0
  try simp only [List.cons_append, List.nil_append, List.set_cons_zero, List.set_cons_succ, List.map_cons, List.map_nil, List.getD_cons_zero, List.getD_cons_succ, World.size_alloc] at H0_
  have H0 := Lib.hid H0_
  clear H0_
  have cm := rmay4_any (hA.below H0.out.belowN (Nat.le_refl _))
  simp only [Ar.v] at cm
  rw [decide_eq_false hm] at cm
  have CM := Lib.hid cm
  have y0 := H0.out.cell (i := 0) rfl 0 _ rfl
  have y1 := H0.out.cell (i := 0) rfl 1 _ rfl
  clear hA hm h0 cm
  go_enter Try.func45, Try.ntmps45
  go_wp2_with fail
  rw [HW.out]
  refine CM.out.mono ?_; rintro e w1 ⟨rfl, hb1⟩
  have H1_ := H0.out.via hb1
  try simp only [List.cons_append, List.nil_append, List.set_cons_zero, List.set_cons_succ, List.map_cons, List.map_nil, List.getD_cons_zero, List.getD_cons_succ, World.size_alloc] at H1_
  have H1 := Lib.hid H1_
  clear H1_
  have x0 := H1.out.cell (i := 1) rfl 0 _ rfl
  have x1 := H1.out.cell (i := 1) rfl 1 _ rfl
  have f0 := H1.out.frozen (i := 1) rfl 0
  have f1 := H1.out.frozen (i := 1) rfl 1
  have HF : Hid (∀ u v, PiecesP w [] [] [] 1 (.returned (.tuple #[.slice none 0 0, .agg #[.slice none 0 0, .slice none 0 0], .int .i64 1])) ((w1.setCell ⟨w.heap.size + 1, 0, none⟩ u).setCell ⟨w.heap.size + 1, 1, none⟩ v)) := fun u v => by
    have h := (H1.out.put (i := 1) rfl 0 u).put (i := 1) rfl 1 v
    have h2 := ((h.rowNil 93 2).arrNew (Ar.is_nil _) (Ar.own_nil _ _) (Below.refl _ _)).pick [2, 3] (by decide)
    exact ⟨none, 0, 0, ⟨none, 0, 0, none, 0, 0, [], []⟩, rfl, h2, rfl, rfl, rfl⟩
  clear hb1 y0 y1
  go_wp2
  exact bodyPost_ret (v := .tuple #[.slice none 0 0, .agg #[.slice none 0 0, .slice none 0 0], .int .i64 1]) (by simp [results, Try.results45, go_sem, *]) rfl (HF.out _ _)
set_option maxHeartbeats 1600000 in
theorem rpieces_zero {w : World} {A : Ar} (hA : A.Is w) (n : Int) (hm : amE A.s A.a = 0) (hn0 : n = 0) : Calls Try.prog 45 #[A.v, .int .i64 n] w (PiecesP w [] [] [] 10) := by
  obtain ⟨sa, sn, sc, aa, an, ac, s, a⟩ := A
  simp only [Ar.v] at hm ⊢
  obtain ⟨W, HW⟩ : ∃ z, Hid ((w.alloc (.cells #[.slice sa sn sc, .slice aa an ac] 45)).alloc (.cells #[.slice none 0 0, .slice none 0 0] 45) = z) := ⟨_, rfl⟩
  have h0 := ((Sp.start Non w).alloc 45 2 1 #[.slice sa sn sc, .slice aa an ac] rfl (by decide)).alloc 45 2 1 #[.slice none 0 0, .slice none 0 0] rfl (by decide)
  rw [HW.out] at h0
  have H0_ := h0
  try simp only [List.cons_append, List.nil_append, List.set_cons_zero, List.set_cons_succ, List.map_cons, List.map_nil, List.getD_cons_zero, List.getD_cons_succ, World.size_alloc] at H0_
  have H0 := Lib.hid H0_
  clear H0_
  have cm := rmay4_any (hA.below H0.out.belowN (Nat.le_refl _))
  simp only [Ar.v] at cm
  rw [decide_eq_true hm] at cm
  subst hn0
  have CM := Lib.hid cm
  have y0 := H0.out.cell (i := 0) rfl 0 _ rfl
  have y1 := H0.out.cell (i := 0) rfl 1 _ rfl
  clear hA hm h0 cm
  go_enter Try.func45, Try.ntmps45
  go_wp2_with fail
  rw [HW.out]
  refine CM.out.mono ?_; rintro e w1 ⟨rfl, hb1⟩
  have H1_ := H0.out.via hb1
  try simp only [List.cons_append, List.nil_append, List.set_cons_zero, List.set_cons_succ, List.map_cons, List.map_nil, List.getD_cons_zero, List.getD_cons_succ, World.size_alloc] at H1_
  have H1 := Lib.hid H1_
  clear H1_
  have x0 := H1.out.cell (i := 1) rfl 0 _ rfl
  have x1 := H1.out.cell (i := 1) rfl 1 _ rfl
  have f0 := H1.out.frozen (i := 1) rfl 0
  have f1 := H1.out.frozen (i := 1) rfl 1
  have HF : Hid (∀ u v, PiecesP w [] [] [] 10 (.returned (.tuple #[.slice none 0 0, .agg #[.slice none 0 0, .slice none 0 0], .int .i64 10])) ((w1.setCell ⟨w.heap.size + 1, 0, none⟩ u).setCell ⟨w.heap.size + 1, 1, none⟩ v)) := fun u v => by
    have h := (H1.out.put (i := 1) rfl 0 u).put (i := 1) rfl 1 v
    have h2 := ((h.rowNil 93 2).arrNew (Ar.is_nil _) (Ar.own_nil _ _) (Below.refl _ _)).pick [2, 3] (by decide)
    exact ⟨none, 0, 0, ⟨none, 0, 0, none, 0, 0, [], []⟩, rfl, h2, rfl, rfl, rfl⟩
  clear hb1 y0 y1
  go_wp2
  exact bodyPost_ret (v := .tuple #[.slice none 0 0, .agg #[.slice none 0 0, .slice none 0 0], .int .i64 10]) (by simp [results, Try.results45, go_sem, *]) rfl (HF.out _ _)
set_option maxRecDepth 100000 in
set_option maxHeartbeats 3200000 in
theorem rpieces_ok {w : World} {A : Ar} (hA : A.Is w) (n : Int) (hn : -9223372036854775808 ≤ n ∧ n ≤ 9223372036854775807) (hn0 : n ≠ 0) (hm : amE A.s A.a = 0) :
    Calls Try.prog 45 #[A.v, .int .i64 n] w (PiecesP w (pcP A.s A.a n) (pcS A.s A.a n) (pcA A.s A.a n) (pcE A.s A.a n)) := by
  obtain ⟨sa, sn, sc, aa, an, ac, s, a⟩ := A
  simp only [Ar.v] at hm ⊢
  obtain ⟨W, HW⟩ : ∃ z, Hid ((w.alloc (.cells #[.slice sa sn sc, .slice aa an ac] 45)).alloc (.cells #[.slice none 0 0, .slice none 0 0] 45) = z) := ⟨_, rfl⟩
  have h0 := ((Sp.start Non w).alloc 45 2 1 #[.slice sa sn sc, .slice aa an ac] rfl (by decide)).alloc 45 2 1 #[.slice none 0 0, .slice none 0 0] rfl (by decide)
  rw [HW.out] at h0
  have H0_ := h0
  try simp only [List.cons_append, List.nil_append, List.set_cons_zero, List.set_cons_succ, List.map_cons, List.map_nil, List.getD_cons_zero, List.getD_cons_succ, World.size_alloc] at H0_
  have H0 := Lib.hid H0_
  clear H0_
  have HI := Lib.hid hA
  have cm := rmay4_any (hA.below H0.out.belowN (Nat.le_refl _))
  simp only [Ar.v] at cm
  rw [decide_eq_true hm] at cm
  have CM := Lib.hid cm
  clear cm
  obtain ⟨hq1, hq2⟩ := amE_zero hm
  obtain ⟨m1, m2⟩ := lsdL_may hq1
  have hll := lsdL_len s
  have hco := lsdL_cons s
  have hl8 := (mayE_zero m1).2.1
  have hN0 : 0 ≤ ltN s := (mayE_zero m1).1 0
  have hN1 : ltN s ≤ 4096 := by
    have h := (mayE_zero m1).2.2
    rw [hco, pm_cons'] at h
    have h1 := pm_pos ((lsdL s).drop 1)
    have := (le_mul1 (show 1 ≤ max (ltN s) 1 by omega) h1).1
    omega
  have e1 : pcP s a n = pcL (ltN s) n := by unfold pcP; rw [if_pos ⟨hm, hn0⟩]
  have e2 : pcE s a n = if (pcL (ltN s) n).length = 0 then if n > 4096 ∨ n < -4096 ∨ mayE (pcT s n) ≠ 0 then 17 else 0 else 0 := by unfold pcE; rw [if_pos hm, if_neg hn0]
  rw [pcS, pcA, e1, e2, pcL_len]
  have e3 : pcT s n = (lsdL s).set 0 (max n (-n)) := rfl
  rw [e3]
  obtain ⟨M, HMM⟩ : ∃ z, Hid (ltN s = z) := ⟨_, rfl⟩
  rw [HMM.out] at hN0 hN1 ⊢
  obtain ⟨l, HLL⟩ : ∃ z, Hid (lsdL s = z) := ⟨_, rfl⟩
  rw [HLL.out] at hll hco hl8 m1 ⊢
  rw [HMM.out] at hco
  have y0 := H0.out.cell (i := 0) rfl 0 _ rfl
  have y1 := H0.out.cell (i := 0) rfl 1 _ rfl
  have HCO := Lib.hid hco
  have hNle := pcN_le ⟨hN0, hN1⟩ hn0
  obtain ⟨i4, hi4, hza4, hzb4, hzc4⟩ := info_parts (P := Try.prog) (e := 93) (z := .agg #[.int .i64 0, .int .i64 0]) (size := 2) (bytes := 16) (by kernel_rfl)
  have q0 : (n == 0) = false := by simpa using hn0
  obtain ⟨RE, HRE⟩ : ∃ z, Hid (z = if pcN M n = 0 then if n > 4096 ∨ n < -4096 ∨ mayE (l.set 0 (max n (-n))) ≠ 0 then (17 : Int) else 0 else 0) := ⟨_, rfl⟩
  rw [← HRE.out]
  obtain ⟨RS, HRS⟩ : ∃ z, Hid (z = if RE = 0 ∧ pcN M n = 0 then l.set 0 (max n (-n)) else []) := ⟨_, rfl⟩
  obtain ⟨RA, HRA⟩ : ∃ z, Hid (z = if RE = 0 ∧ pcN M n = 0 then List.replicate (pr (l.set 0 (max n (-n)))).toNat (0 : Int) else []) := ⟨_, rfl⟩
  rw [← HRS.out, ← HRA.out]
  obtain ⟨d, HDD⟩ : ∃ z, Hid (z = if 0 < n then if n < 5000 then n else 5000 else if -5000 < n then -n else (5000 : Int)) := ⟨_, rfl⟩
  have hd : 1 ≤ d ∧ d ≤ 5000 := by rw [HDD.out]; split <;> split <;> omega
  clear hA hm hq1 hq2 m1 m2 h0 hco e1 e2 e3
  go_enter Try.func45, Try.ntmps45
  go_wp2_with fail
  rw [HW.out]
  refine CM.out.mono ?_; rintro e w1 ⟨rfl, hb1⟩
  have H1_ := H0.out.via hb1
  try simp only [List.cons_append, List.nil_append, List.set_cons_zero, List.set_cons_succ, List.map_cons, List.map_nil, List.getD_cons_zero, List.getD_cons_succ, World.size_alloc] at H1_
  have H1 := Lib.hid H1_
  clear H1_
  clear hb1 y0 y1
  have y0 := H1.out.cell (i := 0) rfl 0 _ rfl
  have y1 := H1.out.cell (i := 0) rfl 1 _ rfl
  obtain ⟨i0, hi0, hza, hzb, hzc⟩ := info_parts (P := Try.prog) (e := 3) (z := .int .i64 0) (size := 1) (bytes := 8) (by kernel_rfl)
  have CL := Lib.hid (rlisted_any (HI.out.below H1.out.belowN (Nat.le_refl _)))
  simp only [Ar.v] at CL
  go_wp2_with fail
  refine CL.out.mono ?_; rintro e w2 ⟨lo, ln, lc0, P0, rfl, h2, himp⟩
  have H2a_ := (H1.out.add h2).intsNew (E := 3) (zs := []) (World.ownsRow_nil _ _ _ _) (Below.refl _ _) (by omega) (fun i => by simp [List.getD])
  try simp only [List.cons_append, List.nil_append, List.set_cons_zero, List.set_cons_succ, List.map_cons, List.map_nil, List.getD_cons_zero, List.getD_cons_succ, World.size_alloc] at H2a_
  have H2a := Lib.hid H2a_
  clear H2a_
  have LL4 : Ls w2 lo ln lc0 l := by
    obtain ⟨F3, hF3, -⟩ := H2a.out.hole (i := 2) rfl
    have h := himp w2 F3 (HI.out.below H2a.out.belowN (Nat.le_refl _)).shp hF3
    rwa [HLL.out] at h
  have LL5 := Lib.hid LL4
  have hlen := LL4.len
  have hb1 : (0 + ln) * 8 ≤ 140737488351232 := by omega
  clear h2 himp LL4 y0 y1 CL H1
  go_wp2_with (at_builtin; refine Sp.wpList_loc (i := 3) H2a.out rfl _ _ 25 rfl 3 i0 Try.underlying25 hi0 hza hzb hzc rfl rfl rfl LL5.out hb1 ?_)
  intro bo lc w3 h3
  have hL2 : Ls w3 bo ln lc l := h3.ls (i := 3) rfl
  have H4a_ := h3.pick [0, 1, 3] (by decide)
  try simp only [List.cons_append, List.nil_append, List.set_cons_zero, List.set_cons_succ, List.map_cons, List.map_nil, List.getD_cons_zero, List.getD_cons_succ, World.size_alloc] at H4a_
  have H4a := Lib.hid H4a_
  clear H4a_
  have hcap := hL2.cap
  have H2_ := (H4a.out.toRow (i := 2) rfl).rowNil 93 2
  try simp only [List.cons_append, List.nil_append, List.set_cons_zero, List.set_cons_succ, List.map_cons, List.map_nil, List.getD_cons_zero, List.getD_cons_succ, World.size_alloc] at H2_
  have H2 := Lib.hid H2_
  clear H2_
  obtain ⟨g, rfl⟩ := (H2.out.rcap (i := 2) rfl).2.2.2.2 (by omega)
  have HL2 := Lib.hid hL2
  clear h3 H4a hL2 H2a LL5 hb1
  have s0 := H2.out.cell (i := 2) rfl 0 (.int .i64 M) (by rw [HCO.out]; rfl)
  have hl0 : (0 : Int) < ln := by omega
  obtain ⟨b1, HB1⟩ : ∃ z, Hid (w.heap.size + 1 = z) := ⟨_, rfl⟩
  rw [HB1.out] at H2 ⊢
  obtain ⟨N, HN⟩ : ∃ z, Hid (pcN M n = z) := ⟨_, rfl⟩
  rw [HN.out] at HRE HRS HRA hNle
  by_cases hp : 0 < n
  · have hL : pcL M n = pcUp n (pcN M n) := by unfold pcL; rw [if_pos hp]
    have hK := pcN_up (m := M) hp
    rw [HN.out] at hL hK
    have HK := Lib.hid hK
    have k1 : decide (0 < n) = true := by simpa using hp
    have k2 : decide (n < 0) = false := by simp; omega
    by_cases h5 : n < 5000
    · have k3 : decide (n < 5000) = true := by simpa using h5
      have hdn : d = n := by rw [HDD.out, if_pos hp, if_pos h5]
      have HRL := Lib.hid hL
      have HDN := Lib.hid hdn
      clear hK hL hn0 hdn
      go_wp2_with fail
      go_loopw [9, 11] (fun u v wr => ∃ (k : Nat) (po : Option Addr) (pc : Nat) (x : Int), k ≤ N ∧ Hid (x = (k : Int)) ∧ u = Value.slice po k pc ∧ v = .int .i64 x ∧ Hid (PcI w wr (.slice sa sn sc) (.slice aa an ac) g ln lc l b1 po k pc (pcUp n k))) (fun _ v _ => N - (RowKit.intOf v).toNat)
      case atStart => exact ⟨0, none, 0, 0, by omega, rfl, rfl, rfl, H2.out⟩
      case round =>
        clear H2 s0
        obtain ⟨k, po, pc, x, hk, HX, rfl, rfl, HO⟩ := hrel
        have hx0 : 0 ≤ x ∧ x ≤ 4096 := by rw [HX.out]; omega
        have z1 : IntKind.i64.wrap (x + n) = x + n := IntWalk.i64_in _ (by omega)
        by_cases hlt : k < N
        · have hc : x + n ≤ M := by have := (HK.out k).1 hlt; rw [HX.out]; omega
          have z2 : IntKind.i64.wrap (x + 1) = x + 1 := IntWalk.i64_in _ (by omega)
          have HV := Lib.hid (Sp.via HO.out (abal wr (.cells #[.int .i64 x, .int .i64 n] 93)))
          have hmx : k + 1 ≤ maxLen := by unfold maxLen; omega
          have hbyt : (k + 1) * 16 ≤ 140737488355328 := by omega
          go_wp2_with (at_builtin; refine Sp.wpList_append HV.out rfl _ _ 82 rfl 93 i4 (.agg #[.int .i64 0, .int .i64 0]) 2 16 Try.underlying82 hi4 hza4 hzb4 hzc4 rfl (by decide) (i := 3) rfl rfl ⟨wr.heap.size, 0, none⟩ 1 1 rfl [.int .i64 x, .int .i64 (n)] rfl (newsA wr _ _ _) (by simp [Value.oneCell']) hmx hbyt ?_)
          intro b9 d9 w9 hH9
          have HF : Hid (PcI w w9 (.slice sa sn sc) (.slice aa an ac) g ln lc l b1 b9 (k + 1) d9 (pcUp n (k + 1))) := by
            show PcI _ _ _ _ _ _ _ _ _ _ _ _ _
            rw [pcUp_succ, ← HX.out]
            exact PcI.more hH9
          clear hH9
          go_wp2
          go_roundw
          case rel => first | exact ⟨k + 1, b9, d9, x + 1, by omega, by show _ = _; rw [HX.out]; push_cast; rfl, rfl, rfl, HF⟩ | ((repeat apply Exists.intro); exact ⟨⟨k + 1, b9, d9, x + 1, by omega, by show _ = _; rw [HX.out]; push_cast; rfl, rfl, rfl, HF⟩, rfl⟩)
          case measure => have := HX.out; simp [RowKit.intOf]; omega
        · have hc : ¬ (x + n ≤ M) := fun h => hlt ((HK.out k).2 (by rw [← HX.out]; omega))
          obtain rfl : N = k := by omega
          rw [← HRL.out] at HO
          clear HX
          have HQ : Hid (Sp Non w wr _) := HO.out
          have x0 := HQ.out.cell (i := 1) rfl 0 _ rfl
          have x1 := HQ.out.cell (i := 1) rfl 1 _ rfl
          have f0 := HQ.out.frozen (i := 1) rfl 0
          have f1 := HQ.out.frozen (i := 1) rfl 1
          have HLN : Hid ((pcL M n).length = N) := by show _ = _; rw [pcL_len]; exact HN.out
          by_cases hz : N = 0
          · have hE : RE = if n > 4096 ∨ n < -4096 ∨ mayE (l.set 0 (max n (-n))) ≠ 0 then 17 else 0 := by rw [HRE.out, if_pos hz]
            have hP : pcL M n = [] := List.eq_nil_of_length_eq_zero (HLN.out.trans hz)
            have HPP := Lib.hid hP
            have hz1 : ¬ ((0 : Int) < N) := by omega
            have HRS1 : Hid (RE ≠ 0 → RS = [] ∧ RA = []) := fun h => ⟨by rw [HRS.out, if_neg (fun q => h q.1)], by rw [HRA.out, if_neg (fun q => h q.1)]⟩
            have HRS2 : Hid (RE = 0 → RS = l.set 0 (max n (-n)) ∧ RA = List.replicate (pr (l.set 0 (max n (-n)))).toNat 0) := fun h => ⟨by rw [HRS.out, if_pos ⟨h, hz⟩], by rw [HRA.out, if_pos ⟨h, hz⟩]⟩
            have hHR : ∀ i, -9223372036854775808 ≤ (l.set 0 n).getD i 0 ∧ (l.set 0 n).getD i 0 ≤ 9223372036854775807 := fun i => by
              have h := HL2.out.rng i
              simp only [List.getD, List.getElem?_set] at h ⊢
              split
              · split
                · simp <;> omega
                · simp
              · exact h
            have s0 := HQ.out.cell (i := 2) rfl 0 (.int .i64 M) (by rw [HCO.out]; rfl)
            have g0 := HQ.out.frozen (i := 2) rfl 0
            have H3_ := (HQ.out.put (i := 2) rfl 0 (.int .i64 n)).toInts (i := 2) (zs := l.set 0 n) (by rw [HCO.out]; rfl) (by omega) hHR
            try simp only [List.cons_append, List.nil_append, List.set_cons_zero, List.set_cons_succ, List.map_cons, List.map_nil, List.getD_cons_zero, List.getD_cons_succ, World.size_alloc] at H3_
            have H3 := Lib.hid H3_
            clear H3_
            have CY := Lib.hid (rmay_any (H3.out.ls (i := 2) rfl))
            by_cases hy : mayE (l.set 0 n) = 0
            · have hd4 : (n : Int) ≤ 4096 := by
                have h := (may_bdR hy 0).2
                have e : (l.set 0 n).getD 0 0 = n := by rw [HCO.out]; simp
                rwa [e] at h
              have hdn : max n (-n) = n := (by omega)
              have e0 : RE = 0 := by rw [hE, hdn, if_neg (by simp only [hy]; omega)]
              obtain ⟨e1, e2⟩ := HRS2.out e0
              rw [hdn] at e1 e2
              have CZ := Lib.hid (rzeros_any (H3.out.ls (i := 2) rfl) hy)
              rw [hy] at CY
              subst e0 e1 e2
              clear hE hP hz hy hHR HRE HRS HRA HRS1 HRS2
              go_wp2_with fail
              refine CY.out.mono ?_; rintro e w5 ⟨rfl, hw⟩
              have hw' := hw.symm
              subst hw'
              go_wp2_with fail
              refine CZ.out.mono ?_; rintro e w6 ⟨Z, rfl, hZI, hZs, hZa, hZO, hb6⟩
              have h6 := H3.out.arrNew hZI hZO hb6
              clear x0 x1 f0 f1
              have x0 := h6.cell (i := 1) rfl 0 _ rfl
              have x1 := h6.cell (i := 1) rfl 1 _ rfl
              have f0 := h6.frozen (i := 1) rfl 0
              have f1 := h6.frozen (i := 1) rfl 1
              have HF : Hid (∀ u v, PiecesP w (pcL M n) (l.set 0 n) (List.replicate (pr (l.set 0 n)).toNat 0) 0 (.returned (.tuple #[.slice none 0 0, Z.v, .int .i64 0])) ((w6.setCell ⟨b1, 0, none⟩ u).setCell ⟨b1, 1, none⟩ v)) := fun u v => by
                rw [HPP.out]
                exact ⟨none, 0, 0, Z, rfl, ((((h6.put (i := 1) rfl 0 u).put (i := 1) rfl 1 v).rowNil 93 2)).pick [5, 4] (by decide), rfl, hZs, hZa⟩
              simp only [Ar.v] at HF ⊢
              clear h6 hZI hZs hZa hZO hb6
              go_wp2
              exact bodyPost_ret (v := .tuple #[.slice none 0 0, .agg #[.slice Z.sa Z.sn Z.sc, .slice Z.aa Z.an Z.ac], .int .i64 0]) (by simp [results, Try.results45, go_sem, *]) rfl (HF.out _ _)
            · have e0 : RE = 17 := by
                rw [hE, if_pos]
                by_cases hb : n > 4096 ∨ n < -4096
                · omega
                · right; right
                  have hdn : max n (-n) = n := (by omega)
                  rw [hdn]; exact hy
              obtain ⟨e1, e2⟩ := HRS1.out (by omega)
              subst e0 e1 e2
              obtain ⟨m, hmm⟩ : ∃ m, m = mayE (l.set 0 n) := ⟨_, rfl⟩
              rw [← hmm] at CY hy
              have q0 : (m != 0) = true := by simpa using hy
              have HF : Hid (∀ u v, PiecesP w (pcL M n) [] [] 17 (.returned (.tuple #[.slice none 0 0, .agg #[.slice none 0 0, .slice none 0 0], .int .i64 17])) (((wr.setCell ⟨g, 0, none⟩ (.int .i64 n)).setCell ⟨b1, 0, none⟩ u).setCell ⟨b1, 1, none⟩ v)) := fun u v => by
                rw [HPP.out]
                have h := (((((H3.out.pick [0, 1] (by decide)).put (i := 1) rfl 0 u).put (i := 1) rfl 1 v).rowNil 93 2).arrNew (Ar.is_nil _) (Ar.own_nil _ _) (Below.refl _ _)).pick [2, 3] (by decide)
                exact ⟨none, 0, 0, ⟨none, 0, 0, none, 0, 0, [], []⟩, rfl, h, rfl, rfl, rfl⟩
              have y0 := H3.out.cell (i := 1) rfl 0 _ rfl
              have y1 := H3.out.cell (i := 1) rfl 1 _ rfl
              have y2 := H3.out.frozen (i := 1) rfl 0
              have y3 := H3.out.frozen (i := 1) rfl 1
              clear hE hP hz hy hHR hmm HRE HRS HRA HRS1 HRS2
              go_wp2_with fail
              refine CY.out.mono ?_; rintro e w5 ⟨rfl, hw⟩
              have hw' := hw.symm
              subst hw'
              go_wp2
              exact bodyPost_ret (v := .tuple #[.slice none 0 0, .agg #[.slice none 0 0, .slice none 0 0], .int .i64 17]) (by simp [results, Try.results45, go_sem, *]) rfl (HF.out _ _)
          · have eE : RE = 0 := by rw [HRE.out, if_neg hz]
            have eS : RS = [] := by rw [HRS.out, if_neg (fun h => hz h.2)]
            have eA : RA = [] := by rw [HRA.out, if_neg (fun h => hz h.2)]
            have HF : Hid (∀ u v, PiecesP w (pcL M n) RS RA RE (.returned (.tuple #[.slice po N pc, .agg #[.slice none 0 0, .slice none 0 0], .int .i64 0])) ((wr.setCell ⟨b1, 0, none⟩ u).setCell ⟨b1, 1, none⟩ v)) := fun u v => by
              rw [eE, eS, eA]
              have h := ((((HQ.out.put (i := 1) rfl 0 u).put (i := 1) rfl 1 v).arrNew (Ar.is_nil _) (Ar.own_nil _ _) (Below.refl _ _))).pick [3, 4] (by decide)
              exact ⟨po, N, pc, ⟨none, 0, 0, none, 0, 0, [], []⟩, rfl, h, HLN.out, rfl, rfl⟩
            have hz1 : (0 : Int) < N := by omega
            clear eE eS eA hz HRE HRS HRA
            go_wp2
            exact bodyPost_ret (v := .tuple #[.slice po N pc, .agg #[.slice none 0 0, .slice none 0 0], .int .i64 0]) (by simp [results, Try.results45, go_sem, *]) rfl (HF.out _ _)
    · have k3 : decide (n < 5000) = false := by simpa using h5
      have hdn : d = 5000 := by rw [HDD.out, if_pos hp, if_neg h5]
      have hN : N = 0 := by
        rcases Nat.eq_zero_or_pos N with h | h
        · exact h
        · have := (hK 0).1 h; omega
      subst hN
      have HO : Hid (PcI w w3 (.slice sa sn sc) (.slice aa an ac) g ln lc l b1 none 0 0 (pcL M n)) := by
        show PcI _ _ _ _ _ _ _ _ _ _ _ _ _
        rw [hL]; exact H2.out
      have N := 0
      clear hK hL hn0 H2 s0
      have hD5 := Lib.hid hdn
      subst hdn
      have HQ : Hid (Sp Non w w3 _) := HO.out
      have x0 := HQ.out.cell (i := 1) rfl 0 _ rfl
      have x1 := HQ.out.cell (i := 1) rfl 1 _ rfl
      have f0 := HQ.out.frozen (i := 1) rfl 0
      have f1 := HQ.out.frozen (i := 1) rfl 1
      have HLN : Hid ((pcL M n).length = 0) := by show _ = _; rw [pcL_len]; exact HN.out
      by_cases hz : (0 : Nat) = 0
      · have hE : RE = if n > 4096 ∨ n < -4096 ∨ mayE (l.set 0 (max n (-n))) ≠ 0 then 17 else 0 := by rw [HRE.out, if_pos hz]
        have hP : pcL M n = [] := List.eq_nil_of_length_eq_zero (HLN.out.trans hz)
        have HPP := Lib.hid hP
        have hz1 : ¬ ((0 : Int) < 0) := by omega
        have HRS1 : Hid (RE ≠ 0 → RS = [] ∧ RA = []) := fun h => ⟨by rw [HRS.out, if_neg (fun q => h q.1)], by rw [HRA.out, if_neg (fun q => h q.1)]⟩
        have HRS2 : Hid (RE = 0 → RS = l.set 0 (max n (-n)) ∧ RA = List.replicate (pr (l.set 0 (max n (-n)))).toNat 0) := fun h => ⟨by rw [HRS.out, if_pos ⟨h, hz⟩], by rw [HRA.out, if_pos ⟨h, hz⟩]⟩
        have hHR : ∀ i, -9223372036854775808 ≤ (l.set 0 5000).getD i 0 ∧ (l.set 0 5000).getD i 0 ≤ 9223372036854775807 := fun i => by
          have h := HL2.out.rng i
          simp only [List.getD, List.getElem?_set] at h ⊢
          split
          · split
            · simp <;> omega
            · simp
          · exact h
        have s0 := HQ.out.cell (i := 2) rfl 0 (.int .i64 M) (by rw [HCO.out]; rfl)
        have g0 := HQ.out.frozen (i := 2) rfl 0
        have H3_ := (HQ.out.put (i := 2) rfl 0 (.int .i64 5000)).toInts (i := 2) (zs := l.set 0 5000) (by rw [HCO.out]; rfl) (by omega) hHR
        try simp only [List.cons_append, List.nil_append, List.set_cons_zero, List.set_cons_succ, List.map_cons, List.map_nil, List.getD_cons_zero, List.getD_cons_succ, World.size_alloc] at H3_
        have H3 := Lib.hid H3_
        clear H3_
        have CY := Lib.hid (rmay_any (H3.out.ls (i := 2) rfl))
        by_cases hy : mayE (l.set 0 5000) = 0
        · have hd4 : (5000 : Int) ≤ 4096 := by
            have h := (may_bdR hy 0).2
            have e : (l.set 0 5000).getD 0 0 = 5000 := by rw [HCO.out]; simp
            rwa [e] at h
          exfalso; omega
        · have e0 : RE = 17 := by
            rw [hE, if_pos]
            by_cases hb : n > 4096 ∨ n < -4096
            · omega
            · right; right
              have hdn : max n (-n) = 5000 := (by omega)
              rw [hdn]; exact hy
          obtain ⟨e1, e2⟩ := HRS1.out (by omega)
          subst e0 e1 e2
          obtain ⟨m, hmm⟩ : ∃ m, m = mayE (l.set 0 5000) := ⟨_, rfl⟩
          rw [← hmm] at CY hy
          have q0 : (m != 0) = true := by simpa using hy
          have HF : Hid (∀ u v, PiecesP w (pcL M n) [] [] 17 (.returned (.tuple #[.slice none 0 0, .agg #[.slice none 0 0, .slice none 0 0], .int .i64 17])) (((w3.setCell ⟨g, 0, none⟩ (.int .i64 5000)).setCell ⟨b1, 0, none⟩ u).setCell ⟨b1, 1, none⟩ v)) := fun u v => by
            rw [HPP.out]
            have h := (((((H3.out.pick [0, 1] (by decide)).put (i := 1) rfl 0 u).put (i := 1) rfl 1 v).rowNil 93 2).arrNew (Ar.is_nil _) (Ar.own_nil _ _) (Below.refl _ _)).pick [2, 3] (by decide)
            exact ⟨none, 0, 0, ⟨none, 0, 0, none, 0, 0, [], []⟩, rfl, h, rfl, rfl, rfl⟩
          have y0 := H3.out.cell (i := 1) rfl 0 _ rfl
          have y1 := H3.out.cell (i := 1) rfl 1 _ rfl
          have y2 := H3.out.frozen (i := 1) rfl 0
          have y3 := H3.out.frozen (i := 1) rfl 1
          clear hE hP hz hy hHR hmm HRE HRS HRA HRS1 HRS2
          go_wp2_with fail
          refine CY.out.mono ?_; rintro e w5 ⟨rfl, hw⟩
          have hw' := hw.symm
          subst hw'
          go_wp2
          exact bodyPost_ret (v := .tuple #[.slice none 0 0, .agg #[.slice none 0 0, .slice none 0 0], .int .i64 17]) (by simp [results, Try.results45, go_sem, *]) rfl (HF.out _ _)
      · exact absurd rfl hz
  · have hd0 : n < 0 := by omega
    have hK0 : ∀ k : Nat, k < pcN M n ↔ (k : Int) * (-n) < M := fun k => pcN_dn hd0 k
    have hdv : d = if -5000 < n then -n else 5000 := by rw [HDD.out, if_neg hp]
    have hK : ∀ k : Nat, k < pcN M n ↔ (k : Int) * d < M := fun k => by
      rw [hK0 k, hdv]
      split
      · exact Iff.rfl
      · cases k with
        | zero => simp
        | succ k =>
          have h1 : (1 : Int) * (-n) ≤ ((k + 1 : Nat) : Int) * (-n) := Int.mul_le_mul_of_nonneg_right (by omega) (by omega)
          have h2 : (1 : Int) * 5000 ≤ ((k + 1 : Nat) : Int) * 5000 := Int.mul_le_mul_of_nonneg_right (by omega) (by omega)
          omega
    have hL : pcL M n = pcDn M d (pcN M n) := by
      unfold pcL
      rw [if_neg hp]
      unfold pcDn
      refine List.map_congr_left fun i hi => ?_
      have hi' : i < pcN M n := by simpa using hi
      have h1 := (hK0 i).1 hi'
      rw [hdv]
      split
      · rfl
      · cases i with
        | zero => simp <;> omega
        | succ k =>
          have h1' : (1 : Int) * (-n) ≤ ((k + 1 : Nat) : Int) * (-n) := Int.mul_le_mul_of_nonneg_right (by omega) (by omega)
          omega
    rw [HN.out] at hL hK
    have HK := Lib.hid hK
    have HRL := Lib.hid hL
    have HDV := Lib.hid hdv
    have k1 : decide (0 < n) = false := by simp; omega
    have k2 : decide (n < 0) = true := by simpa using hd0
    clear hK hL hn0 hdv hK0
    go_upto_if 50 with fail
    go_cut [10] from 50 to 53 (fun v10 wx => v10 = .int .i64 d ∧ wx = w3)
    case first =>
      have hsp : -5000 < n ∨ ¬ -5000 < n := by omega
      rcases hsp with h5 | h5
      · have k3 : decide (n > -5000) = true := by simpa using h5
        have hdn : d = -n := by rw [HDV.out, if_pos h5]
        have z0 : IntKind.i64.wrap (-n) = d := by rw [hdn]; exact IntWalk.i64_in _ (by omega)
        clear hdn
        go_wp2_with fail
        go_meet
        exact ⟨rfl, rfl⟩
      · have k3 : decide (n > -5000) = false := by simp; omega
        have hdn : d = 5000 := by rw [HDV.out, if_neg h5]
        subst hdn
        go_wp2_with fail
        go_meet
        exact ⟨rfl, rfl⟩
    case rest =>
      obtain ⟨rfl, rfl⟩ := hcut
      go_wp2_with fail
      go_loopw [9, 12] (fun u v wr => ∃ (k : Nat) (po : Option Addr) (pc : Nat) (x : Int), k ≤ N ∧ Hid (x = (k : Int) * d) ∧ u = Value.slice po k pc ∧ v = .int .i64 x ∧ Hid (PcI w wr (.slice sa sn sc) (.slice aa an ac) g ln lc l b1 po k pc (pcDn M d k))) (fun u _ _ => N - (match u with | .slice _ k _ => k | _ => 0))
      case atStart => exact ⟨0, none, 0, 0, by omega, by show _ = _; simp, rfl, rfl, H2.out⟩
      case round =>
        clear H2 s0
        obtain ⟨k, po, pc, x, hk, HX, rfl, rfl, HO⟩ := hrel
        have hx0 : 0 ≤ x := by rw [HX.out]; exact Int.mul_nonneg (by omega) (by omega)
        by_cases hlt : k < N
        · have hxM : x < M := by rw [HX.out]; exact (HK.out k).1 hlt
          have hsucc : ((k + 1 : Nat) : Int) * d = (k : Int) * d + d := by push_cast; rw [Int.add_mul, Int.one_mul]
          have HSU := Lib.hid hsucc
          have hmx : k + 1 ≤ maxLen := by unfold maxLen; omega
          have hbyt : (k + 1) * 16 ≤ 140737488355328 := by omega
          have z1 : IntKind.i64.wrap (M - x) = M - x := IntWalk.i64_in _ (by omega)
          have z6 : IntKind.i64.wrap (x + d) = x + d := IntWalk.i64_in _ (by omega)
          have hpc : (((k : Int) * d, min d (M - (k : Int) * d)) : Int × Int) = (x, min d (M - x)) := by rw [← HX.out]
          clear hsucc
          have HPC := Lib.hid hpc
          have HV := Lib.hid (Sp.via HO.out (abal wr (.cells #[.int .i64 x, .int .i64 (min d (M - x))] 93)))
          clear hpc
          go_wp2_with (at_builtin; refine Sp.wpList_append HV.out rfl _ _ 82 rfl 93 i4 (.agg #[.int .i64 0, .int .i64 0]) 2 16 Try.underlying82 hi4 hza4 hzb4 hzc4 rfl (by decide) (i := 3) rfl rfl ⟨wr.heap.size, 0, none⟩ 1 1 rfl [.int .i64 x, .int .i64 (min d (M - x))] rfl (newsA wr _ _ _) (by simp [Value.oneCell']) hmx hbyt ?_)
          intro b9 d9 w9 hH9
          have HF : Hid (PcI w w9 (.slice sa sn sc) (.slice aa an ac) g ln lc l b1 b9 (k + 1) d9 (pcDn M d (k + 1))) := by
            show PcI _ _ _ _ _ _ _ _ _ _ _ _ _
            rw [pcDn_succ, HPC.out]
            exact PcI.more hH9
          clear hH9
          go_wp2
          go_roundw
          case rel => first | exact ⟨k + 1, b9, d9, x + d, by omega, by show _ = _; rw [HSU.out, HX.out], rfl, rfl, HF⟩ | ((repeat apply Exists.intro); exact ⟨⟨k + 1, b9, d9, x + d, by omega, by show _ = _; rw [HSU.out, HX.out], rfl, rfl, HF⟩, rfl⟩)
          case measure => simp only; omega
        · have hxM : ¬ x < M := fun h => hlt ((HK.out k).2 (by rw [← HX.out]; exact h))
          obtain rfl : N = k := by omega
          rw [← HRL.out] at HO
          clear HX
          have HQ : Hid (Sp Non w wr _) := HO.out
          have x0 := HQ.out.cell (i := 1) rfl 0 _ rfl
          have x1 := HQ.out.cell (i := 1) rfl 1 _ rfl
          have f0 := HQ.out.frozen (i := 1) rfl 0
          have f1 := HQ.out.frozen (i := 1) rfl 1
          have HLN : Hid ((pcL M n).length = N) := by show _ = _; rw [pcL_len]; exact HN.out
          by_cases hz : N = 0
          · have hE : RE = if n > 4096 ∨ n < -4096 ∨ mayE (l.set 0 (max n (-n))) ≠ 0 then 17 else 0 := by rw [HRE.out, if_pos hz]
            have hP : pcL M n = [] := List.eq_nil_of_length_eq_zero (HLN.out.trans hz)
            have HPP := Lib.hid hP
            have hz1 : ¬ ((0 : Int) < N) := by omega
            have HRS1 : Hid (RE ≠ 0 → RS = [] ∧ RA = []) := fun h => ⟨by rw [HRS.out, if_neg (fun q => h q.1)], by rw [HRA.out, if_neg (fun q => h q.1)]⟩
            have HRS2 : Hid (RE = 0 → RS = l.set 0 (max n (-n)) ∧ RA = List.replicate (pr (l.set 0 (max n (-n)))).toNat 0) := fun h => ⟨by rw [HRS.out, if_pos ⟨h, hz⟩], by rw [HRA.out, if_pos ⟨h, hz⟩]⟩
            have hHR : ∀ i, -9223372036854775808 ≤ (l.set 0 d).getD i 0 ∧ (l.set 0 d).getD i 0 ≤ 9223372036854775807 := fun i => by
              have h := HL2.out.rng i
              simp only [List.getD, List.getElem?_set] at h ⊢
              split
              · split
                · simp <;> omega
                · simp
              · exact h
            have s0 := HQ.out.cell (i := 2) rfl 0 (.int .i64 M) (by rw [HCO.out]; rfl)
            have g0 := HQ.out.frozen (i := 2) rfl 0
            have H3_ := (HQ.out.put (i := 2) rfl 0 (.int .i64 d)).toInts (i := 2) (zs := l.set 0 d) (by rw [HCO.out]; rfl) (by omega) hHR
            try simp only [List.cons_append, List.nil_append, List.set_cons_zero, List.set_cons_succ, List.map_cons, List.map_nil, List.getD_cons_zero, List.getD_cons_succ, World.size_alloc] at H3_
            have H3 := Lib.hid H3_
            clear H3_
            have CY := Lib.hid (rmay_any (H3.out.ls (i := 2) rfl))
            by_cases hy : mayE (l.set 0 d) = 0
            · have hd4 : d ≤ 4096 := by
                have h := (may_bdR hy 0).2
                have e : (l.set 0 d).getD 0 0 = d := by rw [HCO.out]; simp
                rwa [e] at h
              have hdn : max n (-n) = d := (by have h := HDV.out; split at h <;> omega)
              have e0 : RE = 0 := by rw [hE, hdn, if_neg (by simp only [hy]; omega)]
              obtain ⟨e1, e2⟩ := HRS2.out e0
              rw [hdn] at e1 e2
              have CZ := Lib.hid (rzeros_any (H3.out.ls (i := 2) rfl) hy)
              rw [hy] at CY
              subst e0 e1 e2
              clear hE hP hz hy hHR HRE HRS HRA HRS1 HRS2
              go_wp2_with fail
              refine CY.out.mono ?_; rintro e w5 ⟨rfl, hw⟩
              have hw' := hw.symm
              subst hw'
              go_wp2_with fail
              refine CZ.out.mono ?_; rintro e w6 ⟨Z, rfl, hZI, hZs, hZa, hZO, hb6⟩
              have h6 := H3.out.arrNew hZI hZO hb6
              clear x0 x1 f0 f1
              have x0 := h6.cell (i := 1) rfl 0 _ rfl
              have x1 := h6.cell (i := 1) rfl 1 _ rfl
              have f0 := h6.frozen (i := 1) rfl 0
              have f1 := h6.frozen (i := 1) rfl 1
              have HF : Hid (∀ u v, PiecesP w (pcL M n) (l.set 0 d) (List.replicate (pr (l.set 0 d)).toNat 0) 0 (.returned (.tuple #[.slice none 0 0, Z.v, .int .i64 0])) ((w6.setCell ⟨b1, 0, none⟩ u).setCell ⟨b1, 1, none⟩ v)) := fun u v => by
                rw [HPP.out]
                exact ⟨none, 0, 0, Z, rfl, ((((h6.put (i := 1) rfl 0 u).put (i := 1) rfl 1 v).rowNil 93 2)).pick [5, 4] (by decide), rfl, hZs, hZa⟩
              simp only [Ar.v] at HF ⊢
              clear h6 hZI hZs hZa hZO hb6
              go_wp2
              exact bodyPost_ret (v := .tuple #[.slice none 0 0, .agg #[.slice Z.sa Z.sn Z.sc, .slice Z.aa Z.an Z.ac], .int .i64 0]) (by simp [results, Try.results45, go_sem, *]) rfl (HF.out _ _)
            · have e0 : RE = 17 := by
                rw [hE, if_pos]
                by_cases hb : n > 4096 ∨ n < -4096
                · omega
                · right; right
                  have hdn : max n (-n) = d := (by have h := HDV.out; split at h <;> omega)
                  rw [hdn]; exact hy
              obtain ⟨e1, e2⟩ := HRS1.out (by omega)
              subst e0 e1 e2
              obtain ⟨m, hmm⟩ : ∃ m, m = mayE (l.set 0 d) := ⟨_, rfl⟩
              rw [← hmm] at CY hy
              have q0 : (m != 0) = true := by simpa using hy
              have HF : Hid (∀ u v, PiecesP w (pcL M n) [] [] 17 (.returned (.tuple #[.slice none 0 0, .agg #[.slice none 0 0, .slice none 0 0], .int .i64 17])) (((wr.setCell ⟨g, 0, none⟩ (.int .i64 d)).setCell ⟨b1, 0, none⟩ u).setCell ⟨b1, 1, none⟩ v)) := fun u v => by
                rw [HPP.out]
                have h := (((((H3.out.pick [0, 1] (by decide)).put (i := 1) rfl 0 u).put (i := 1) rfl 1 v).rowNil 93 2).arrNew (Ar.is_nil _) (Ar.own_nil _ _) (Below.refl _ _)).pick [2, 3] (by decide)
                exact ⟨none, 0, 0, ⟨none, 0, 0, none, 0, 0, [], []⟩, rfl, h, rfl, rfl, rfl⟩
              have y0 := H3.out.cell (i := 1) rfl 0 _ rfl
              have y1 := H3.out.cell (i := 1) rfl 1 _ rfl
              have y2 := H3.out.frozen (i := 1) rfl 0
              have y3 := H3.out.frozen (i := 1) rfl 1
              clear hE hP hz hy hHR hmm HRE HRS HRA HRS1 HRS2
              go_wp2_with fail
              refine CY.out.mono ?_; rintro e w5 ⟨rfl, hw⟩
              have hw' := hw.symm
              subst hw'
              go_wp2
              exact bodyPost_ret (v := .tuple #[.slice none 0 0, .agg #[.slice none 0 0, .slice none 0 0], .int .i64 17]) (by simp [results, Try.results45, go_sem, *]) rfl (HF.out _ _)
          · have eE : RE = 0 := by rw [HRE.out, if_neg hz]
            have eS : RS = [] := by rw [HRS.out, if_neg (fun h => hz h.2)]
            have eA : RA = [] := by rw [HRA.out, if_neg (fun h => hz h.2)]
            have HF : Hid (∀ u v, PiecesP w (pcL M n) RS RA RE (.returned (.tuple #[.slice po N pc, .agg #[.slice none 0 0, .slice none 0 0], .int .i64 0])) ((wr.setCell ⟨b1, 0, none⟩ u).setCell ⟨b1, 1, none⟩ v)) := fun u v => by
              rw [eE, eS, eA]
              have h := ((((HQ.out.put (i := 1) rfl 0 u).put (i := 1) rfl 1 v).arrNew (Ar.is_nil _) (Ar.own_nil _ _) (Below.refl _ _))).pick [3, 4] (by decide)
              exact ⟨po, N, pc, ⟨none, 0, 0, none, 0, 0, [], []⟩, rfl, h, HLN.out, rfl, rfl⟩
            have hz1 : (0 : Int) < N := by omega
            clear eE eS eA hz HRE HRS HRA
            go_wp2
            exact bodyPost_ret (v := .tuple #[.slice po N pc, .agg #[.slice none 0 0, .slice none 0 0], .int .i64 0]) (by simp [results, Try.results45, go_sem, *]) rfl (HF.out _ _)
theorem rpieces_any {w : World} {A : Ar} (hA : A.Is w) (n : Int) (hn : -9223372036854775808 ≤ n ∧ n ≤ 9223372036854775807) :
    Calls Try.prog 45 #[A.v, .int .i64 n] w (PiecesP w (pcP A.s A.a n) (pcS A.s A.a n) (pcA A.s A.a n) (pcE A.s A.a n)) := by
  by_cases hm : amE A.s A.a = 0
  · by_cases h0 : n = 0
    · have h := rpieces_zero hA n hm h0
      have e1 : pcE A.s A.a n = 10 := by unfold pcE; rw [if_pos hm, if_pos h0]
      have e2 : pcP A.s A.a n = [] := by unfold pcP; rw [if_neg (fun q => q.2 h0)]
      rw [pcS, pcA, e1, e2, if_neg (fun q => absurd q.1 (by decide)), if_neg (fun q => absurd q.1 (by decide))]
      exact h
    · exact rpieces_ok hA n hn h0 hm
  · have h := rpieces_bad hA n hm
    have e1 : pcE A.s A.a n = 1 := by unfold pcE; rw [if_neg hm]
    have e2 : pcP A.s A.a n = [] := by unfold pcP; rw [if_neg (fun q => hm q.1)]
    rw [pcS, pcA, e1, e2, if_neg (fun q => absurd q.1 (by decide)), if_neg (fun q => absurd q.1 (by decide))]
    exact h
end Go.Proofs.Ythackmkdicpdeaa

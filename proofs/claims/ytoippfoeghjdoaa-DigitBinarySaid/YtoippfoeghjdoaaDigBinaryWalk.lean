/- DigitBinary: the walk of the statement's function. -/
import Derived.Test.YtoippfoeghjdoaaDigBinPlain
namespace Go.Proofs.Ytoippfoeghjdoaa
open Go.RowKit Go.Lib
set_option linter.unusedVariables false
set_option linter.unusedSimpArgs false
attribute [local go_sem] alloc_drewN setCell_drewN
set_option maxHeartbeats 800000 in
theorem may8_any {w : World} {Y : Ar} (hY : Y.Is w) : Calls Try.prog 25 #[Y.v] w (RetB w (.bool (decide (amE Y.s Y.a = 0)))) := by
  obtain ⟨ta, tn, tc, ba, bn, bc, t, b⟩ := Y
  simp only [Ar.v]
  have H0 := (Sp.start Non w).alloc 38 2 1 #[.slice ta tn tc, .slice ba bn bc] rfl (by decide)
  obtain ⟨W, HW⟩ : ∃ z, Hid (w.alloc (.cells #[.slice ta tn tc, .slice ba bn bc] 38) = z) := ⟨_, rfl⟩
  rw [HW.out] at H0
  obtain ⟨g, HG⟩ : ∃ z, Hid (w.heap.size = z) := ⟨_, rfl⟩
  have H1_ := H0
  try simp only [List.cons_append, List.nil_append, List.set_cons_zero, List.set_cons_succ, List.map_cons, List.map_nil, List.getD_cons_zero, List.getD_cons_succ, World.size_alloc] at H1_
  have H1 := Lib.hid H1_
  clear H1_
  rw [HG.out] at H1
  have C := Lib.hid (size_any (hY.shp.below H1.out.belowN (Nat.le_refl _)))
  simp only at C
  have y0 := H1.out.cell (i := 0) rfl 0 _ rfl
  have y1 := H1.out.cell (i := 0) rfl 1 _ rfl
  have hbl : b.length = bn := hY.ats.len
  have HB := Lib.hid H1.out.belowN
  have HF : Hid (decide (amE t b = 0) = (decide (mayE t = 0) && decide (szE t = bn))) := by
    show _ = _
    unfold amE szE
    by_cases h : mayE t = 0
    · by_cases h2 : pr t = bn
      · simp [h, h2, hbl]
      · simp [h, h2, hbl]
    · simp [h]
  rw [HF.out]
  obtain ⟨m, HM⟩ : ∃ z, Hid (mayE t = z) := ⟨_, rfl⟩
  obtain ⟨sz, HS⟩ : ∃ z, Hid (szE t = z) := ⟨_, rfl⟩
  rw [HM.out, HS.out] at C ⊢
  clear hY H0 H1 hbl HF
  by_cases hm : m = 0
  · have q0 : (m == 0) = true := by simpa using hm
    by_cases h2 : sz = bn
    · have q1 : (sz == (bn : Int)) = true := by simpa using h2
      have e : (decide (m = 0) && decide (sz = (bn : Int))) = true := by simp [hm, h2]
      rw [e]
      clear hm h2
      go_enter Try.func25, Try.ntmps25
      go_wp2_with fail
      rw [HW.out, HG.out]
      refine C.out.mono ?_; rintro e w' ⟨rfl, hw'⟩
      have hw'' := hw'.symm
      subst hw''
      go_wp2
      go_ret
      exact RetB.mk rfl HB.out
    · have q1 : (sz == (bn : Int)) = false := by simpa using h2
      have e : (decide (m = 0) && decide (sz = (bn : Int))) = false := by simp [hm, h2]
      rw [e]
      clear hm h2
      go_enter Try.func25, Try.ntmps25
      go_wp2_with fail
      rw [HW.out, HG.out]
      refine C.out.mono ?_; rintro e w' ⟨rfl, hw'⟩
      have hw'' := hw'.symm
      subst hw''
      go_wp2
      go_ret
      exact RetB.mk rfl HB.out
  · have q0 : (m == 0) = false := by simpa using hm
    have e : (decide (m = 0) && decide (sz = (bn : Int))) = false := by simp [hm]
    rw [e]
    clear hm
    go_enter Try.func25, Try.ntmps25
    go_wp2_with fail
    rw [HW.out, HG.out]
    refine C.out.mono ?_; rintro e w' ⟨rfl, hw'⟩
    have hw'' := hw'.symm
    subst hw''
    go_wp2
    go_ret
    exact RetB.mk rfl HB.out
set_option maxRecDepth 100000 in
set_option maxHeartbeats 6400000 in
theorem walkDigitBinary {w : World} {Y : Ar} (hY : Y.Is w) :
    Calls Try.prog 8 #[Y.v] w (RetB w (.bool true)) := by
  obtain ⟨ta, tn, tc, ba, bn, bc, t, b⟩ := Y
  simp only [Ar.v]
  have BG := Lib.hid (fun w1 => begun8_any w1)
  have HY := Lib.hid hY
  have HLB := Lib.hid (show t.length = tn ∧ b.length = bn from ⟨hY.shp.len, hY.ats.len⟩)
  have hbb := hY.ats.big
  have htb := hY.shp.big
  simp only at hbb htb
  have H0 := (Sp.start Non w).alloc 38 2 1 #[.slice ta tn tc, .slice ba bn bc] rfl (by decide)
  obtain ⟨W0, HW⟩ : ∃ z, Hid (w.alloc (.cells #[.slice ta tn tc, .slice ba bn bc] 38) = z) := ⟨_, rfl⟩
  rw [HW.out] at H0
  obtain ⟨g, HG⟩ : ∃ z, Hid (w.heap.size = z) := ⟨_, rfl⟩
  have H1_ := H0
  try simp only [List.cons_append, List.nil_append, List.set_cons_zero, List.set_cons_succ, List.map_cons, List.map_nil, List.getD_cons_zero, List.getD_cons_succ, World.size_alloc] at H1_
  have H1 := Lib.hid H1_
  clear H1_
  rw [HG.out] at H1
  have CM : Hid (∀ (w1 : World) (op : Int) (A : Ar) (s a S B : List Int) (E : Int), A.Is w1 → A.s = s → A.a = a → dMon op s a = (S, B, E) → Calls Try.prog 20 #[.int .i64 op, A.v] w1 (MadeE w1 S B E)) := by
    intro w1 op A s a S B E hA hs ha h
    have q := dmonad_any hA op
    rw [hs, ha, h] at q
    exact q
  have CY := Lib.hid (fun (w1 : World) (hb : Below w.heap.size w w1) => may8_any (hY.below hb (Nat.le_refl _)))
  simp only [Ar.v] at CY
  clear H0 hY
  go_enter Try.func8, Try.ntmps8
  go_wp2_with fail
  rw [HW.out, HG.out]
  refine (BG.out _).mono ?_; rintro e w1 ⟨rfl, hb1⟩
  have H2 := Lib.hid (H1.out.via hb1)
  have y0 := H2.out.cell (i := 0) rfl 0 _ rfl
  have y1 := H2.out.cell (i := 0) rfl 1 _ rfl
  have HYI := Lib.hid (HY.out.below H2.out.belowN (Nat.le_refl _))
  clear H1 hb1
  by_cases hm : amE t b = 0
  · obtain ⟨hm1, hm2⟩ := amE_zero hm
    have hbn := amE_an hm
    have ht8 := (mayE_zero hm1).2.1
    rw [HLB.out.2] at hbn
    rw [HLB.out.1] at ht8
    have CYT := CY.out
    simp only [hm, decide_true] at CYT
    have CYH := Lib.hid CYT
    clear CYT CY
    have hno : ¬ (amE t b ≠ 0 ∨ dMine 40 = false) := fun h => h.elim (fun h => h hm) (fun h => absurd h (by decide))
    by_cases hbi : mayE (t ++ [biW b]) = 0
    · have hbw := biW_bd HY.out.ats.rng bn (by rw [HLB.out.2]; exact Nat.le_refl _)
      have hbu := biW_ub (a := b) bn (by rw [HLB.out.2]; exact Nat.le_refl _)
      simp only [← HLB.out.2, List.take_length] at hbw hbu
      rw [HLB.out.2] at hbu
      obtain ⟨V, HV⟩ : ∃ V : Nat, Hid (biW b = V) := ⟨(biW b).toNat, (Int.toNat_of_nonneg hbw.1).symm⟩
      rw [HV.out] at hbw hbu
      obtain ⟨A, HA⟩ : ∃ z, Hid ((b.map fun n => biD V n V).flatten = z) := ⟨_, rfl⟩
      have hv : dMon 40 t b = (t ++ [(V : Int)], A, 0) := by
        unfold dMon
        rw [if_neg hno, if_neg (by decide), if_neg (fun h => absurd rfl h.1), if_neg (by decide), if_neg (by decide), if_neg (by decide)]
        unfold biS biA biE
        rw [if_pos hbi, if_pos hbi, if_pos hbi, HV.out, Int.toNat_natCast, HA.out]
      have C1 := Lib.hid (CM.out w1 40 _ _ _ _ _ _ HYI.out rfl rfl hv)
      simp only [Ar.v] at C1
      have HBU := Lib.hid hbu
      have hAl : A.length = V * bn := by rw [← HA.out, flat_len (fun x => biD_len V x V), HLB.out.2]
      have hrow : ∀ i, i < bn → (A.drop (i * V)).take V = biD V (b.getD i 0) V := fun i hi => by
        rw [← HA.out]
        exact flat_cut (fun x => biD_len V x V) b i (by rw [HLB.out.2]; exact hi)
      have HAR := Lib.hid (And.intro hAl hrow)
      clear hm hno hbi hv hbu hAl hrow hm1 hm2 BG
      go_wp2_with fail
      refine C1.out.mono ?_; rintro e w3 ⟨⟨pa, pn, pc, qa, qn, qc, p, q⟩, rfl, hI, hs, ha, hO, hb3⟩
      simp only at hs ha
      have hs' := hs.symm
      have ha' := ha.symm
      subst ha' hs'
      have hpn : pn = tn + 1 := by have h1 := hI.shp.len; simp only [List.length_append, List.length_cons, List.length_nil] at h1; rw [HLB.out.1] at h1; omega
      have hqn : qn = V * bn := by have h1 := hI.ats.len; simp only at h1; rw [HAR.out.1] at h1; omega
      subst hpn hqn
      have H3_ := (H2.out.arrNew hI hO hb3).alloc 38 2 1 #[.slice pa (tn + 1) pc, .slice qa (V * bn) qc] rfl (by decide)
      try simp only [List.cons_append, List.nil_append, List.set_cons_zero, List.set_cons_succ, List.map_cons, List.map_nil, List.getD_cons_zero, List.getD_cons_succ, World.size_alloc] at H3_
      have H3 := Lib.hid H3_
      clear H3_
      have CYQ := Lib.hid (CYH.out _ H3.out.belowN)
      clear y0 y1
      have y0 := H3.out.cell (i := 0) rfl 0 _ rfl
      have y1 := H3.out.cell (i := 0) rfl 1 _ rfl
      simp only [Ar.v]
      clear hs ha hI hO hb3 C1 H2 CYH HYI
      go_wp2_with fail
      refine CYQ.out.mono ?_; rintro e w4 ⟨rfl, hb4⟩
      obtain ⟨g3, HG3⟩ : ∃ z, Hid (w3.heap.size = z) := ⟨_, rfl⟩
      have H4 := Lib.hid (H3.out.via hb4)
      rw [HG3.out] at H4 ⊢
      clear hb4 CYQ H3 y0 y1
      have y0 := H4.out.cell (i := 0) rfl 0 _ rfl
      have y1 := H4.out.cell (i := 0) rfl 1 _ rfl
      have z0 := H4.out.cell (i := 2) rfl 0 _ rfl
      have z1 := H4.out.cell (i := 2) rfl 1 _ rfl
      obtain ⟨b4, o4, e4, hc4⟩ := (H4.out.isA (i := 1) rfl).shp.at (by simp only; omega)
      have d4 := hc4 tn (by simp only; omega)
      simp only at e4 d4
      subst e4
      rw [show (t ++ [(V : Int)]).getD tn 0 = V by rw [← HLB.out.1]; simp [List.getD]] at d4
      have k1 : ((tn : Int) + 1 != tn + 1) = false := by simp
      have k2 : ¬ (64 : Int) < V := by omega
      have k3 : ¬ (V : Int) < 0 := by omega
      have hVb : V * bn ≤ 262144 := by
        have := Nat.mul_le_mul (show V ≤ 64 by omega) hbn
        omega
      have hVc : (V : Int) * bn = ((V * bn : Nat) : Int) := by push_cast; rfl
      obtain ⟨M, HM⟩ : ∃ z, Hid (V * bn = z) := ⟨_, rfl⟩
      rw [HM.out] at hVb hVc
      have k4 : IntKind.i64.wrap ((V : Int) * bn) = M := by rw [hVc]; exact IntWalk.i64_in _ (by omega)
      have k5 : ((M : Int) != M) = false := by simp
      rw [HM.out] at z1
      have k6 : (tn : Int) < tn + 1 := by omega
      clear hc4
      rw [HM.out] at H4
      have HARM := HAR.out
      rw [HM.out] at HARM
      have HAR := Lib.hid HARM
      clear HARM
      go_upto_region 13 with fail
      go_cut [6] from 61 (fun v6 wx => ∃ h : Bool, v6 = .bool h ∧ wx = w4 ∧ Hid ((bn = 0 ∨ V = 1) → h = true))
      case first =>
        by_cases hb0 : bn = 0
        · have k7 : ((bn : Int) == 0) = true := by simp [hb0]
          clear hb0
          go_wp2_with fail
          go_meet
          exact ⟨true, rfl, rfl, fun _ => rfl⟩
        · have k7 : ((bn : Int) == 0) = false := by simp; omega
          have k7b : ¬ bn = 0 := hb0
          by_cases hv1 : V = 1
          · have k8 : ((V : Int) == 1) = true := by simp [hv1]
            clear hb0 hv1
            go_wp2_with fail
            go_meet
            exact ⟨true, rfl, rfl, fun _ => rfl⟩
          · have k8 : ((V : Int) == 1) = false := by simp; omega
            have HQ : Hid ((bn = 0 ∨ V = 1) → false = true) := fun h => absurd h (by omega)
            clear hb0 hv1
            go_wp2_with fail
            go_meet
            exact ⟨false, rfl, rfl, HQ⟩
      case rest =>
        obtain ⟨h0, rfl, rfl, HH0⟩ := hcut
        clear d4 k1 k2 k3 k4 k5 k6
        go_wp2_with fail
        go_loopw [6, 7] (fun v6 v7 wr => ∃ (i : Nat) (h : Bool), i ≤ bn ∧ v7 = .int .i64 i ∧ v6 = .bool h ∧ Hid (Sp Non w wr [Pt.row ⟨38, 2, some ⟨g, 0, none⟩, 1, 1, [.slice ta tn tc, .slice ba bn bc]⟩, Pt.arr ⟨some ⟨b4, o4, none⟩, tn + 1, pc, qa, M, qc, t ++ [(V : Int)], A⟩, Pt.row ⟨38, 2, some ⟨g3, 0, none⟩, 1, 1, [.slice (some ⟨b4, o4, none⟩) (tn + 1) pc, .slice qa M qc]⟩]) ∧ Hid ((bn = 0 ∨ V = 1 ∨ ∃ j, j < i ∧ (b.getD j 0 < 0 ∨ b.getD j 0 / 2 ^ (V - 1) % 2 = 1)) → h = true)) (fun _ v7 _ => bn - (RowKit.intOf v7).toNat)
        case atStart => exact ⟨0, h0, by omega, rfl, rfl, H4, fun h => HH0.out (h.elim .inl (fun h => h.elim .inr (fun ⟨j, hj, _⟩ => absurd hj (by omega))))⟩
        case round =>
          clear H4 HH0 y0 y1 z0 z1
          obtain ⟨i, h, hi, rfl, rfl, HO, HH⟩ := hrel
          have y0 := HO.out.cell (i := 0) rfl 0 _ rfl
          have y1 := HO.out.cell (i := 0) rfl 1 _ rfl
          have z1 := HO.out.cell (i := 2) rfl 1 _ rfl
          by_cases hlt : i < bn
          · have hlt' : (i : Int) < bn := by omega
            have hV1 : 1 ≤ V := by have := HBU.out.2.1 (by omega); omega
            obtain ⟨x, HX⟩ : ∃ z, Hid (b.getD i 0 = z) := ⟨_, rfl⟩
            have hxr := HY.out.ats.rng i
            simp only at hxr
            obtain ⟨b7, o7, e7, hc7⟩ := (HY.out.below HO.out.belowN (Nat.le_refl _)).ats.at (by simp only; omega)
            have d7 := hc7 i (by simp only; omega)
            simp only at e7 d7
            rw [HX.out] at d7 hxr
            have HXR := Lib.hid hxr
            subst e7
            obtain ⟨p, HPP⟩ : ∃ p, Hid (i * V = p) := ⟨_, rfl⟩
            have hpi : (i : Int) * V = p := by rw [← HPP.out]; push_cast; rfl
            have hpe : p + V ≤ M := by
              have h3 := Nat.mul_le_mul_right V (show i + 1 ≤ bn by omega)
              rw [Nat.succ_mul, HPP.out, Nat.mul_comm bn V, HM.out] at h3
              exact h3
            have hats := (HO.out.isA (i := 1) rfl).ats
            simp only at hats
            have hcap := hats.cap
            obtain ⟨b6, o6, e6, hc6⟩ := hats.at (by omega)
            subst e6
            have hrow := HAR.out.2 i hlt
            rw [HPP.out, HX.out] at hrow
            have hls := hats.cutA p V hpe
            rw [hrow] at hls
            have HLS := Lib.hid hls
            have hd : ∀ k, k < V → wr.cell? ⟨b6, o6 + p + k, none⟩ = some (.int .i64 (x / 2 ^ (V - 1 - k) % 2)) := fun k hk => by
              have h := hc6 (p + k) (by omega)
              rw [← Nat.add_assoc] at h
              rw [h]
              have h2 : A.getD (p + k) 0 = x / 2 ^ (V - 1 - k) % 2 := by
                rw [← biD_at (w := V) (n := x) (k := V) hk, ← hrow]
                simp only [List.getD_eq_getElem?_getD]
                rw [List.getElem?_take_of_lt hk, List.getElem?_drop]
              rw [h2]
            have HD := Lib.hid hd
            have k4 : IntKind.i64.wrap ((i : Int) * V) = p := by rw [hpi]; exact IntWalk.i64_in _ (by omega)
            have k5 : IntKind.i64.wrap ((p : Int) + V) = p + V := IntWalk.i64_in _ (by omega)
            have k6 : ¬ qc = p := by omega
            have k7 : (0 : Int) ≤ p := by omega
            have k8 : (p : Int) ≤ p + V := by omega
            have k9 : (p : Int) + V ≤ qc := by omega
            have k10 : ((p : Int) + V).toNat = p + V := by omega
            have k11 : p + V - p = V := by omega
            clear hc7 hpi hats hc6 hrow hls hd hxr
            go_wp2_with fail
            go_loop [9] (fun v9 => ∃ k : Nat, k ≤ V ∧ v9 = .int .i64 k) (fun v9 => V - (RowKit.intOf v9).toNat)
            case atStart => exact ⟨0, by omega, rfl⟩
            case round =>
              obtain ⟨k, hk, rfl⟩ := hrel
              by_cases hkV : k < V
              · have hkV' : (k : Int) < V := by omega
                have d8 := HD.out k hkV
                have hx01 : x / 2 ^ (V - 1 - k) % 2 = 0 ∨ x / 2 ^ (V - 1 - k) % 2 = 1 := by omega
                rcases hx01 with h01 | h01
                · rw [h01] at d8
                  clear h01
                  go_wp2
                  go_round
                  case rel => exact ⟨k + 1, by omega, by go_num⟩
                  case measure => simp [RowKit.intOf]; omega
                · rw [h01] at d8
                  clear h01
                  go_wp2
                  go_round
                  case rel => exact ⟨k + 1, by omega, by go_num⟩
                  case measure => simp [RowKit.intOf]; omega
              · have hkV' : ¬ ((k : Int) < V) := by omega
                obtain rfl : k = V := by omega
                have d8 := HD.out 0 (by omega)
                rw [Nat.add_zero, Nat.sub_zero] at d8
                have CL : Hid (Calls Try.prog 21 #[.slice (some ⟨b6, o6 + p, none⟩) k (qc - p)] wr (MadeA wr [(k : Int)] (biD k x k))) := by
                  have h2 := HLS.out
                  simp only [Option.map_some, Addr.add] at h2
                  rw [show (if p = 0 then (⟨b6, o6, none⟩ : Addr) else ⟨b6, o6 + p, none⟩) = ⟨b6, o6 + p, none⟩ by split <;> simp_all] at h2
                  exact list8_any h2 (by omega)
                clear k4 k5 k6 k7 k8 k9 k10 k11
                go_upto_region 24 with fail
                go_cut [6] from 109 to 124 (fun v6 wx => ∃ h' : Bool, v6 = .bool h' ∧ wx = wr ∧ Hid ((h = true ∨ x < 0 ∨ x / 2 ^ (k - 1) % 2 = 1) → h' = true))
                case first =>
                  cases h
                  · rcases (show x / 2 ^ (k - 1) % 2 = 0 ∨ x / 2 ^ (k - 1) % 2 = 1 by omega) with h01 | h01
                    · rw [h01] at d8
                      by_cases hn : x < 0
                      · go_wp2_with fail
                        go_meet
                        exact ⟨true, rfl, rfl, fun _ => rfl⟩
                      · have HQ : Hid ((false = true ∨ x < 0 ∨ x / 2 ^ (k - 1) % 2 = 1) → false = true) := fun h => absurd h (fun h => h.elim (fun h => absurd h (by decide)) (fun h => h.elim hn (fun h => by omega)))
                        clear h01
                        go_wp2_with fail
                        go_meet
                        exact ⟨false, rfl, rfl, HQ⟩
                    · rw [h01] at d8
                      clear h01
                      by_cases hn : x < 0
                      · have hn' : ¬ 0 ≤ x := by omega
                        go_wp2_with fail
                        go_meet
                        exact ⟨true, rfl, rfl, fun _ => rfl⟩
                      · have hn' : 0 ≤ x := by omega
                        go_wp2_with fail
                        go_meet
                        exact ⟨true, rfl, rfl, fun _ => rfl⟩
                  · go_wp2_with fail
                    go_meet
                    exact ⟨true, rfl, rfl, fun _ => rfl⟩
                case rest =>
                  obtain ⟨h', rfl, rfl, HH2⟩ := hcut
                  have HH3 : Hid ((bn = 0 ∨ k = 1 ∨ ∃ j, j < i + 1 ∧ (b.getD j 0 < 0 ∨ b.getD j 0 / 2 ^ (k - 1) % 2 = 1)) → h' = true) := fun hq => by
                    refine HH2.out ?_
                    rcases hq with e | e | ⟨j, hj, e⟩
                    · exact .inl (HH.out (.inl e))
                    · exact .inl (HH.out (.inr (.inl e)))
                    · by_cases hji : j = i
                      · subst hji; rw [HX.out] at e; exact .inr e
                      · exact .inl (HH.out (.inr (.inr ⟨j, by omega, e⟩)))
                  have hub := HBU.out.1 i hlt
                  rw [HX.out] at hub
                  have HUB := Lib.hid hub
                  clear d8 d7 HH HH2 z1 y0 y1 hub
                  go_wp2_with fail
                  refine CL.out.mono ?_; rintro e w5 ⟨⟨sa5, sn5, sc5, aa5, an5, ac5, s5, a5⟩, rfl, hI, hs, ha, -, hb5⟩
                  have H5 := Lib.hid (HO.out.via hb5)
                  have HI5 := Lib.hid (And.intro hI (And.intro hs ha))
                  simp only [Ar.v]
                  clear hI hs ha hb5 CL HO
                  by_cases hn : 0 ≤ x
                  · have C2 := Lib.hid (CM.out w5 39 _ _ _ _ _ _ HI5.out.1 HI5.out.2.1 HI5.out.2.2 (base_bits (by omega) ⟨hn, HXR.out.2⟩ (bitLen_int HXR.out.2 HUB.out hn)))
                    simp only [Ar.v] at C2
                    have CS := Lib.hid (fun w1 => scalar8_any x w1 HXR.out)
                    clear HI5
                    go_wp2_with fail
                    refine C2.out.mono ?_; rintro e w6 ⟨⟨sa6, sn6, sc6, aa6, an6, ac6, s6, a6⟩, rfl, hI, hs, ha, hO, hb6⟩
                    have H6_ := (H5.out.arrNew hI hO hb6).alloc 38 2 1 #[.slice sa6 sn6 sc6, .slice aa6 an6 ac6] rfl (by decide)
                    try simp only [List.cons_append, List.nil_append, List.set_cons_zero, List.set_cons_succ, List.map_cons, List.map_nil, List.getD_cons_zero, List.getD_cons_succ, World.size_alloc] at H6_
                    have H6 := Lib.hid H6_
                    clear H6_
                    simp only at hs ha
                    have HE : Hid (∀ (W1 : World) (B : Ar), Below (w6.alloc (.cells #[.slice sa6 sn6 sc6, .slice aa6 an6 ac6] 38)).heap.size (w6.alloc (.cells #[.slice sa6 sn6 sc6, .slice aa6 an6 ac6] 38)) W1 → B.Is W1 → B.s = [] → B.a = [x] → Calls Try.prog 15 #[.agg #[.slice sa6 sn6 sc6, .slice aa6 an6 ac6], B.v] W1 (RetB W1 (.bool true))) := fun W1 B hb hB q1 q2 => by
                      have q := eq4_any ((H6.out.via hb).isA (i := 3) rfl) hB
                      simp only [hs, ha, q1, q2, and_self, decide_true, Ar.v] at q
                      exact q
                    simp only [Ar.v]
                    clear hI hs ha hO hb6 C2 H5
                    have z0 := H6.out.cell (i := 4) rfl 0 _ rfl
                    have z1 := H6.out.cell (i := 4) rfl 1 _ rfl
                    go_wp2_with fail
                    obtain ⟨W6, HW6⟩ : ∃ z, Hid (w6.alloc (.cells #[.slice sa6 sn6 sc6, .slice aa6 an6 ac6] 38) = z) := ⟨_, rfl⟩
                    obtain ⟨g6, HG6⟩ : ∃ z, Hid (w6.heap.size = z) := ⟨_, rfl⟩
                    rw [HW6.out] at HE
                    rw [HW6.out, HG6.out] at H6 z0 z1 ⊢
                    go_region_held3 (fun v => v.cell? ⟨g6, 0, none⟩ = some (.slice sa6 sn6 sc6) ∧ v.cell? ⟨g6, 1, none⟩ = some (.slice aa6 an6 ac6)) (go_keep)
                      (first
                      | (go_at_call 23; (with_reducible refine Calls.mono (CS.out _) ?_); rintro e v2 ⟨⟨ta2, tn2, tc2, ua2, un2, uc2, ts2, us2⟩, rfl, hI, hs, ha, -, hq⟩; have HC2 : Hid (Below W6.heap.size W6 v2) := (by show Below _ _ _; exact abvia (adrew1 _) hq); have F1 := Lib.hid (HE.out v2 _ HC2.out hI hs ha); simp only [Ar.v] at F1 ⊢; clear hI hs ha hq CS z0 z1; have z0 := (H6.out.via HC2.out).cell (i := 4) rfl 0 _ rfl; have z1 := (H6.out.via HC2.out).cell (i := 4) rfl 1 _ rfl)
                      | (go_at_call 15; (with_reducible refine Calls.mono F1.out ?_); rintro e v3 ⟨rfl, hq⟩; have HC3 : Hid (Below W6.heap.size W6 v3) := (by show Below _ _ _; exact abvia HC2.out hq); clear hq F1 z0 z1; have z0 := (H6.out.via HC3.out).cell (i := 4) rfl 0 _ rfl; have z1 := (H6.out.via HC3.out).cell (i := 4) rfl 1 _ rfl)
                      )
                    all_goals
                      have HR : Hid (Sp Non w v3 [Pt.row ⟨38, 2, some ⟨g, 0, none⟩, 1, 1, [.slice ta tn tc, .slice (some ⟨b7, o7, none⟩) bn bc]⟩, Pt.arr ⟨some ⟨b4, o4, none⟩, tn + 1, pc, some ⟨b6, o6, none⟩, M, qc, t ++ [(k : Int)], A⟩, Pt.row ⟨38, 2, some ⟨g3, 0, none⟩, 1, 1, [.slice (some ⟨b4, o4, none⟩) (tn + 1) pc, .slice (some ⟨b6, o6, none⟩) M qc]⟩]) := (H6.out.via HC3.out).pick [0, 1, 2] (by decide)
                      go_wp2
                      go_roundw
                      case rel => first | exact ⟨i + 1, h', by omega, by go_num, rfl, HR, HH3⟩ | ((repeat apply Exists.intro); refine ⟨⟨i + 1, h', by omega, ?_, rfl, HR, HH3⟩, rfl⟩; go_num)
                      case measure => simp [RowKit.intOf]; omega
                  · obtain ⟨⟨S2, B2, E2⟩, hd2⟩ : ∃ z, dMon 39 [(k : Int)] (biD k x k) = z := ⟨_, rfl⟩
                    have C2 := Lib.hid (CM.out w5 39 _ _ _ _ _ _ HI5.out.1 HI5.out.2.1 HI5.out.2.2 hd2)
                    simp only [Ar.v] at C2
                    clear HI5 hd2
                    go_wp2_with fail
                    refine C2.out.mono ?_; rintro e w6 ⟨⟨sa6, sn6, sc6, aa6, an6, ac6, s6, a6⟩, rfl, -, -, -, -, hb6⟩
                    have H6 := Lib.hid ((H5.out.via hb6).via (abal _ (.cells #[.slice sa6 sn6 sc6, .slice aa6 an6 ac6] 38)))
                    simp only [Ar.v]
                    clear hb6 C2 H5
                    go_wp2_with fail
                    obtain ⟨W6, HW6⟩ : ∃ z, Hid (w6.alloc (.cells #[.slice sa6 sn6 sc6, .slice aa6 an6 ac6] 38) = z) := ⟨_, rfl⟩
                    rw [HW6.out] at H6 ⊢
                    have hn2 : decide (0 ≤ x) = false := by simp; omega
                    clear hn
                    go_quiet (fail)
                    have HR := Lib.hid (fun q => H6.out.via (adrew W6 q))
                    go_wp2
                    go_roundw
                    case rel => first | exact ⟨i + 1, h', by omega, by go_num, rfl, Lib.hid (HR.out _), HH3⟩ | ((repeat apply Exists.intro); refine ⟨⟨i + 1, h', by omega, ?_, rfl, Lib.hid (HR.out _), HH3⟩, rfl⟩; go_num)
                    case measure => simp [RowKit.intOf]; omega
          · have hge : ¬ ((i : Int) < bn) := by omega
            obtain rfl : i = bn := by omega
            have hh : h = true := by
              refine HH.out ?_
              by_cases hb0 : i = 0
              · exact .inl hb0
              · refine .inr ?_
                rcases HBU.out.2.2 (by omega) with e | ⟨j, hj, e⟩
                · exact .inl (by omega)
                · by_cases hv1 : V = 1
                  · exact .inl hv1
                  · refine .inr ⟨j, hj, ?_⟩
                    have hjr := HY.out.ats.rng j
                    simp only at hjr
                    have hV1 := HBU.out.2.1 (by omega)
                    by_cases hn : b.getD j 0 < 0
                    · exact .inl hn
                    · have h1 := top_bit (W := V) (n := b.getD j 0) (by omega) (bitLen_int hjr.2 (by omega) (by omega)) (bitLen_top hjr.2 e (by omega) (by omega))
                      rw [Nat.sub_zero] at h1
                      exact .inr h1
            subst hh
            have HB4 := Lib.hid HO.out.belowN
            clear HO HH
            go_wp2
            go_ret
            exact RetB.mk rfl HB4.out
    · have hv : dMon 40 t b = ([], [], 17) := by
        unfold dMon
        rw [if_neg hno, if_neg (by decide), if_neg (fun h => absurd rfl h.1), if_neg (by decide), if_neg (by decide), if_neg (by decide)]
        unfold biS biA biE
        rw [if_neg hbi, if_neg hbi, if_neg hbi]
      have C1 := Lib.hid (CM.out w1 40 _ _ _ _ _ _ HYI.out rfl rfl hv)
      simp only [Ar.v] at C1
      clear hm hno hbi hv hm1 hm2 BG
      go_wp2_with fail
      refine C1.out.mono ?_; rintro e w3 ⟨⟨pa, pn, pc, qa, qn, qc, p, q⟩, rfl, -, -, -, -, hb3⟩
      have H3_ := (H2.out.via hb3).alloc 38 2 1 #[.slice pa pn pc, .slice qa qn qc] rfl (by decide)
      try simp only [List.cons_append, List.nil_append, List.set_cons_zero, List.set_cons_succ, List.map_cons, List.map_nil, List.getD_cons_zero, List.getD_cons_succ, World.size_alloc] at H3_
      have H3 := Lib.hid H3_
      clear H3_
      have CYQ := Lib.hid (CYH.out _ H3.out.belowN)
      clear y0 y1
      have y0 := H3.out.cell (i := 0) rfl 0 _ rfl
      have y1 := H3.out.cell (i := 0) rfl 1 _ rfl
      simp only [Ar.v]
      clear hb3 C1 H2 CYH HYI
      go_wp2_with fail
      refine CYQ.out.mono ?_; rintro e w4 ⟨rfl, hb4⟩
      have HB4 := Lib.hid (H3.out.via hb4).belowN
      clear hb4 CYQ H3 y0 y1
      go_wp2
      go_ret
      exact RetB.mk rfl HB4.out
  · have hv : dMon 40 t b = ([], [], 1) := by unfold dMon; rw [if_pos (.inl hm)]
    have C1 := Lib.hid (CM.out w1 40 _ _ _ _ _ _ HYI.out rfl rfl hv)
    simp only [Ar.v] at C1
    have CYT := CY.out
    simp only [hm, decide_false] at CYT
    have CYH := Lib.hid CYT
    clear CYT CY hm hv BG
    go_wp2_with fail
    refine C1.out.mono ?_; rintro e w3 ⟨⟨pa, pn, pc, qa, qn, qc, p, q⟩, rfl, -, -, -, -, hb3⟩
    have H3_ := (H2.out.via hb3).alloc 38 2 1 #[.slice pa pn pc, .slice qa qn qc] rfl (by decide)
    try simp only [List.cons_append, List.nil_append, List.set_cons_zero, List.set_cons_succ, List.map_cons, List.map_nil, List.getD_cons_zero, List.getD_cons_succ, World.size_alloc] at H3_
    have H3 := Lib.hid H3_
    clear H3_
    have CYQ := Lib.hid (CYH.out _ H3.out.belowN)
    clear y0 y1
    have y0 := H3.out.cell (i := 0) rfl 0 _ rfl
    have y1 := H3.out.cell (i := 0) rfl 1 _ rfl
    simp only [Ar.v]
    clear hb3 C1 H2 CYH HYI
    go_wp2_with fail
    refine CYQ.out.mono ?_; rintro e w4 ⟨rfl, hb4⟩
    have HB4 := Lib.hid (H3.out.via hb4).belowN
    clear hb4 CYQ H3 y0 y1
    go_wp2
    go_ret
    exact RetB.mk rfl HB4.out
end Go.Proofs.Ytoippfoeghjdoaa

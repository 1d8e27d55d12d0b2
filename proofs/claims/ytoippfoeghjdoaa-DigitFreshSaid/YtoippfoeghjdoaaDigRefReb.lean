/- The document's based (layer 8). The document's rebased (layer 8). -/
import Derived.Test.YtoippfoeghjdoaaDigRef3
namespace Go.Proofs.Ytoippfoeghjdoaa
open Go.RowKit Go.Lib
set_option linter.unusedVariables false
set_option linter.unusedSimpArgs false
attribute [local go_sem] alloc_drewN setCell_drewN
set_option maxRecDepth 100000 in
set_option maxHeartbeats 6400000 in
theorem rbased_any {w : World} {X Y : Ar} (hX : X.Is w) (hY : Y.Is w) (h1 : X.sn ≤ 1) (h2 : Y.sn ≤ 1) (h3 : X.sn = 0 → X.an = 1) (h4 : Y.sn = 0 → Y.an = 1) (h5 : X.an ≤ 4096) (h6 : Y.an ≤ 4096) :
    Calls Try.prog 61 #[X.v, Y.v] w (MadeE w [] (bsA X.s X.a Y.s Y.a) (bsE X.s X.a Y.s Y.a)) := by
  obtain ⟨sa, sn, sc, aa, an, ac, s, a⟩ := X
  obtain ⟨ta, tn, tc, ba, bn, bc, t, b⟩ := Y
  simp only [Ar.v]
  simp only at h1 h2 h3 h4 h5 h6
  have HLX := Lib.hid (show s.length = sn ∧ a.length = an from ⟨hX.shp.len, hX.ats.len⟩)
  have HLY := Lib.hid (show t.length = tn ∧ b.length = bn from ⟨hY.shp.len, hY.ats.len⟩)
  have HX := Lib.hid hX
  have HY := Lib.hid hY
  obtain ⟨W, HW⟩ : ∃ z, Hid (((w.alloc (.cells #[.slice sa sn sc, .slice aa an ac] 38)).alloc (.cells #[.slice ta tn tc, .slice ba bn bc] 38)).alloc (.cells #[.slice none 0 0, .slice none 0 0] 38) = z) := ⟨_, rfl⟩
  have h0 := (((Sp.start Non w).alloc 38 2 1 #[.slice sa sn sc, .slice aa an ac] rfl (by decide)).alloc 38 2 1 #[.slice ta tn tc, .slice ba bn bc] rfl (by decide)).alloc 38 2 1 #[.slice none 0 0, .slice none 0 0] rfl (by decide)
  rw [HW.out] at h0
  obtain ⟨g, HG⟩ : ∃ z, Hid (w.heap.size = z) := ⟨_, rfl⟩
  have H1_ := h0
  try simp only [List.cons_append, List.nil_append, List.set_cons_zero, List.set_cons_succ, List.map_cons, List.map_nil, List.getD_cons_zero, List.getD_cons_succ, World.size_alloc] at H1_
  have H1 := Lib.hid H1_
  clear H1_
  rw [HG.out] at H1
  have BAD : Hid (∀ w1, Below W.heap.size W w1 → ∀ e u v, MadeE w [] [] e (.returned (.tuple #[.agg #[.slice none 0 0, .slice none 0 0], .int .i64 e])) ((w1.setCell ⟨g + 1 + 1, 0, none⟩ u).setCell ⟨g + 1 + 1, 1, none⟩ v)) := fun w1 hb e u v => made_nil e (((H1.out.via hb).put (i := 2) rfl 0 u).put (i := 2) rfl 1 v).belowN
  have x0 := H1.out.cell (i := 0) rfl 0 _ rfl
  have x1 := H1.out.cell (i := 0) rfl 1 _ rfl
  have y0 := H1.out.cell (i := 1) rfl 0 _ rfl
  have y1 := H1.out.cell (i := 1) rfl 1 _ rfl
  obtain ⟨E, HE⟩ : ∃ z, Hid (bsE s a t b = z) := ⟨_, rfl⟩
  obtain ⟨A, HA⟩ : ∃ z, Hid (bsA s a t b = z) := ⟨_, rfl⟩
  rw [HE.out, HA.out]
  clear hX hY h0
  by_cases hbad : sn = 1 ∧ tn = 1 ∧ an ≠ bn
  · obtain ⟨q1, q2, q3⟩ := hbad
    have hno : s.length = 1 ∧ t.length = 1 ∧ a.length ≠ b.length := ⟨by rw [HLX.out.1, q1], by rw [HLY.out.1, q2], by rw [HLX.out.2, HLY.out.2]; exact q3⟩
    have r1 : E = 11 := by rw [← HE.out, bsE, if_pos hno]
    have r2 : A = [] := by rw [← HA.out, bsA, if_pos hno]
    subst r1 r2 q1 q2
    have q4 : ((an : Int) != bn) = true := by simp; omega
    have z0 := H1.out.cell (i := 2) rfl 0 _ rfl
    have z1 := H1.out.cell (i := 2) rfl 1 _ rfl
    have z2 := H1.out.frozen (i := 2) rfl 0
    have z3 := H1.out.frozen (i := 2) rfl 1
    clear hno q3
    go_enter Try.func61, Try.ntmps61
    go_upto_region 1 with fail
    rw [HW.out, HG.out]
    go_wp2
    exact bodyPost_ret (v := .tuple #[.agg #[.slice none 0 0, .slice none 0 0], .int .i64 11]) (by simp [results, Try.results61, go_sem, *]) rfl (BAD.out _ (Below.refl _ _) _ _ _)
  · have hno : ¬ (s.length = 1 ∧ t.length = 1 ∧ a.length ≠ b.length) := by rw [HLX.out.1, HLX.out.2, HLY.out.1, HLY.out.2]; exact hbad
    obtain ⟨N, HN⟩ : ∃ z, Hid (bsN a t b = z) := ⟨_, rfl⟩
    have hN : N = if tn = 0 then an else bn := by rw [← HN.out, bsN, HLY.out.1, HLX.out.2, HLY.out.2]
    have eE : E = match bsGo s a t b N with | none => 14 | some _ => 0 := by rw [← HE.out, bsE, if_neg hno, HN.out]; cases bsGo s a t b N <;> rfl
    have eA : A = match bsGo s a t b N with | none => [] | some r => [r] := by rw [← HA.out, bsA, if_neg hno, HN.out]; cases bsGo s a t b N <;> rfl
    have HEE := Lib.hid (And.intro eE eA)
    have hN4 : N ≤ 4096 := by rw [hN]; split <;> assumption
    have hxi : ∀ i, i < N → if sn = 0 then 0 < an else i < an := fun i hi => by
      split
      · rename_i h; rw [h3 h]; omega
      · rw [hN] at hi
        split at hi
        · exact hi
        · have : an = bn := by
            rcases Decidable.em (an = bn) with q | q
            · exact q
            · exact absurd ⟨by omega, by omega, q⟩ hbad
          omega
    have hyi : ∀ i, i < N → if tn = 0 then 0 < bn else i < bn := fun i hi => by
      rw [hN] at hi
      split
      · rename_i h; rw [h4 h]; omega
      · rename_i h; rw [if_neg h] at hi; exact hi
    have HXI := Lib.hid (And.intro hxi hyi)
    have HNN := Lib.hid hN
    have HB3 := Lib.hid (And.intro h3 h4)
    have CX := Lib.hid (fun (w1 : World) (hb : Below W.heap.size W w1) (i : Nat) (hi : i < N) => rat8_any (HX.out.below (H1.out.via hb).belowN (Nat.le_refl _)) i (hxi i hi))
    have CY := Lib.hid (fun (w1 : World) (hb : Below W.heap.size W w1) (i : Nat) (hi : i < N) => rat8_any (HY.out.below (H1.out.via hb).belowN (Nat.le_refl _)) i (hyi i hi))
    simp only [Ar.v] at CX CY
    have RX := Lib.hid (fun i => pk_rng HX.out i)
    have RY := Lib.hid (fun i => pk_rng HY.out i)
    simp only at RX RY
    clear hno eE eA hxi hyi hN HE HA h3 h4
    go_enter Try.func61, Try.ntmps61
    go_upto_region 1 with fail
    rw [HW.out, HG.out]
    go_cut [30] from 12 to 31 (fun v30 wx => v30 = .bool false ∧ wx = W)
    case first =>
      by_cases q1 : sn = 1
      · by_cases q2 : tn = 1
        · have q3 : an = bn := by
            rcases Decidable.em (an = bn) with q | q
            · exact q
            · exact absurd ⟨q1, q2, q⟩ hbad
          subst q1 q2 q3
          have q4 : ((an : Int) != an) = false := by simp
          clear hbad
          go_wp2_with fail
          go_meet
          exact ⟨rfl, rfl⟩
        · have q3 : tn = 0 := by omega
          subst q1 q3
          clear hbad q2
          go_wp2_with fail
          go_meet
          exact ⟨rfl, rfl⟩
      · have q3 : sn = 0 := by omega
        subst q3
        clear hbad q1
        go_wp2_with fail
        go_meet
        exact ⟨rfl, rfl⟩
    case rest =>
      obtain ⟨rfl, rfl⟩ := hcut
      obtain ⟨W, hWW⟩ : ∃ z, z = wc := ⟨_, rfl⟩
      subst hWW
      clear hbad
      go_upto_if 38 with fail
      go_cut [6] from 38 to 42 (fun v6 wx => v6 = .int .i64 N ∧ wx = W)
      case first =>
        by_cases q2 : tn = 0
        · have e := HNN.out
          rw [if_pos q2] at e
          subst q2 e
          go_wp2_with fail
          go_meet
          exact ⟨rfl, rfl⟩
        · have e := HNN.out
          rw [if_neg q2] at e
          have q3 : ((tn : Int) == 0) = false := by simp; omega
          subst e
          clear q2
          go_wp2_with fail
          go_meet
          exact ⟨rfl, rfl⟩
      case rest =>
        obtain ⟨rfl, rfl⟩ := hcut
        obtain ⟨W, hWW⟩ : ∃ z, z = wc := ⟨_, rfl⟩
        subst hWW
        clear x0 x1 y0 y1
        go_wp2_with fail
        go_loopw [7, 8] (fun v7 v8 wr => ∃ (i : Nat) (r : Int), i ≤ N ∧ v8 = .int .i64 i ∧ v7 = .int .i64 r ∧ Hid (bsGo s a t b i = some r ∧ -9223372036854775808 ≤ r ∧ r ≤ 9223372036854775807) ∧ Below W.heap.size W wr) (fun _ v8 _ => N - (RowKit.intOf v8).toNat)
        case atStart => exact ⟨0, 0, by omega, rfl, rfl, ⟨rfl, by omega, by omega⟩, Below.refl _ _⟩
        case round =>
          obtain ⟨i, r, hi, rfl, rfl, HR, hbr⟩ := hrel
          have HBR := Lib.hid hbr
          have H2 := Lib.hid (H1.out.via hbr)
          clear hbr
          by_cases hlt : i < N
          · have hlt' : (i : Int) < N := by omega
            have x0 := H2.out.cell (i := 0) rfl 0 _ rfl
            have x1 := H2.out.cell (i := 0) rfl 1 _ rfl
            have C1 := Lib.hid (CX.out wr HBR.out i hlt)
            obtain ⟨p, HP⟩ : ∃ z, Hid (pkV s a i = z) := ⟨_, rfl⟩
            obtain ⟨q, HQ⟩ : ∃ z, Hid (pkV t b i = z) := ⟨_, rfl⟩
            have hpr := RX.out i
            have hqr := RY.out i
            rw [HP.out] at C1 hpr
            rw [HQ.out] at hqr
            have C2 := Lib.hid (fun w1 => rtimes8_any r p w1 HR.out.2 hpr)
            have hstep : bsGo s a t b (i + 1) = if fit (r * p) then if fit (r * p + q) then some (r * p + q) else none else none := by rw [bsGo, HR.out.1, HP.out, HQ.out]
            have HST := Lib.hid hstep
            have HQR := Lib.hid hqr
            clear hpr hqr hstep
            go_wp2_with fail
            refine C1.out.mono ?_; rintro e w2 ⟨rfl, hb2⟩
            go_wp2_with fail
            refine (C2.out _).mono ?_; rintro e w3 ⟨v, n3, rfl, hv, hw3⟩
            have HB3' : Hid (Below W.heap.size W w3) := by
              show Below _ _ _
              rw [hw3]
              exact abvia (abvia HBR.out hb2) (adrew _ _)
            clear hb2 hw3 C1 C2 x0 x1
            have H3 := Lib.hid (H1.out.via HB3'.out)
            cases hf : fit (r * p)
            · rw [hf] at HST
              have hnone : bsGo s a t b N = none := by
                have h7 : bsGo s a t b (i + 1) = none := HST.out
                have := bsGo_none h7 (N - (i + 1))
                rw [show i + 1 + (N - (i + 1)) = N by omega] at this
                exact this
              have r1 : E = 14 := by rw [HEE.out.1, hnone]
              have r2 : A = [] := by rw [HEE.out.2, hnone]
              subst r1 r2
              have z0 := H3.out.cell (i := 2) rfl 0 _ rfl
              have z1 := H3.out.cell (i := 2) rfl 1 _ rfl
              have z2 := H3.out.frozen (i := 2) rfl 0
              have z3 := H3.out.frozen (i := 2) rfl 1
              clear hnone hv hf
              go_wp2
              exact bodyPost_ret (v := .tuple #[.agg #[.slice none 0 0, .slice none 0 0], .int .i64 14]) (by simp [results, Try.results61, go_sem, *]) rfl (BAD.out _ HB3'.out _ _ _)
            · rw [hf] at HST
              have hvm := hv hf
              have hfr := (fit_iff _).1 hf
              rw [← hvm] at hfr HST
              have y0 := H3.out.cell (i := 1) rfl 0 _ rfl
              have y1 := H3.out.cell (i := 1) rfl 1 _ rfl
              have C3 := Lib.hid (CY.out w3 HB3'.out i hlt)
              rw [HQ.out] at C3
              have C4 := Lib.hid (fun w1 => rplus8_any v q w1 hfr HQR.out)
              clear hv hf hvm hfr
              go_wp2_with fail
              refine C3.out.mono ?_; rintro e w4 ⟨rfl, hb4⟩
              go_wp2_with fail
              refine (C4.out _).mono ?_; rintro e w5 ⟨v2, n5, rfl, hv2, hw5⟩
              have HB5 : Hid (Below W.heap.size W w5) := by
                show Below _ _ _
                rw [hw5]
                exact abvia (abvia HB3'.out hb4) (adrew _ _)
              have H5 := Lib.hid (H1.out.via HB5.out)
              clear hb4 hw5 C3 C4 y0 y1
              cases hf2 : fit (v + q)
              · rw [hf2] at HST
                have hnone : bsGo s a t b N = none := by
                  have h7 : bsGo s a t b (i + 1) = none := HST.out
                  have := bsGo_none h7 (N - (i + 1))
                  rw [show i + 1 + (N - (i + 1)) = N by omega] at this
                  exact this
                have r1 : E = 14 := by rw [HEE.out.1, hnone]
                have r2 : A = [] := by rw [HEE.out.2, hnone]
                subst r1 r2
                have z0 := H5.out.cell (i := 2) rfl 0 _ rfl
                have z1 := H5.out.cell (i := 2) rfl 1 _ rfl
                have z2 := H5.out.frozen (i := 2) rfl 0
                have z3 := H5.out.frozen (i := 2) rfl 1
                clear hnone hv2 hf2
                go_wp2
                exact bodyPost_ret (v := .tuple #[.agg #[.slice none 0 0, .slice none 0 0], .int .i64 14]) (by simp [results, Try.results61, go_sem, *]) rfl (BAD.out _ HB5.out _ _ _)
              · rw [hf2] at HST
                have hvm := hv2 hf2
                have hfr := (fit_iff _).1 hf2
                have HR' : Hid (bsGo s a t b (i + 1) = some v2 ∧ -9223372036854775808 ≤ v2 ∧ v2 ≤ 9223372036854775807) := ⟨by have := HST.out; rw [hvm]; exact this, by omega, by omega⟩
                have hb5 := HB5.out
                clear hv2 hf2 hvm hfr
                go_wp2
                go_roundw
                case rel => exact ⟨i + 1, v2, by omega, by go_num, rfl, HR', HB5.out⟩
                case measure => simp [RowKit.intOf]; omega
          · have hge : ¬ ((i : Int) < N) := by omega
            obtain rfl : i = N := by omega
            have r1 : E = 0 := by rw [HEE.out.1, HR.out.1]
            have r2 : A = [r] := by rw [HEE.out.2, HR.out.1]
            subst r1 r2
            have CS := Lib.hid (rscalar8_any r wr HR.out.2)
            go_wp2_with fail
            refine CS.out.mono ?_; rintro e w6 ⟨B, rfl, hI, hs, ha, hO, hb6⟩
            simp only [Ar.v]
            have HRL := Lib.hid (H2.out.relay (i := 2) rfl hI hO hb6 0)
            rw [hs, ha] at HRL
            have H6 := Lib.hid (H2.out.via hb6)
            clear hs ha hI hO
            have z0 := H6.out.cell (i := 2) rfl 0 _ rfl
            have z1 := H6.out.cell (i := 2) rfl 1 _ rfl
            have z2 := H6.out.frozen (i := 2) rfl 0
            have z3 := H6.out.frozen (i := 2) rfl 1
            go_wp2
            exact bodyPost_ret (v := .tuple #[.agg #[.slice B.sa B.sn B.sc, .slice B.aa B.an B.ac], .int .i64 0]) (by simp [results, Try.results61, go_sem, *]) rfl (HRL.out _ _)
end Go.Proofs.Ytoippfoeghjdoaa
namespace Go.Proofs.Ytoippfoeghjdoaa
open Go.RowKit Go.Lib
set_option linter.unusedVariables false
set_option linter.unusedSimpArgs false
attribute [local go_sem] alloc_drewN setCell_drewN
theorem dv_plain {r b : Int} (hr : -9223372036854775808 ≤ r ∧ r ≤ 9223372036854775807) (hb : -9223372036854775808 ≤ b ∧ b ≤ 9223372036854775807) (h0 : ¬ b = 0) (hs : ¬ (b = -1 ∧ r = -9223372036854775808)) :
    (-9223372036854775808 ≤ r.tdiv b ∧ r.tdiv b ≤ 9223372036854775807) ∧ (-9223372036854775808 ≤ r.tmod b ∧ r.tmod b ≤ 9223372036854775807) ∧ fit (r.fdiv b) = true ∧
    ((r.tmod b = 0 ∨ (r.tmod b < 0 ↔ b < 0)) → r.fdiv b = r.tdiv b ∧ r.fmod b = r.tmod b) ∧ (¬ (r.tmod b = 0 ∨ (r.tmod b < 0 ↔ b < 0)) → r.fdiv b = r.tdiv b - 1 ∧ r.fmod b = r.tmod b + b) := by
  have hm := tmod_near r b h0
  have e := Int.mul_tdiv_add_tmod r b
  have em : b * (r.tdiv b - 1) = b * r.tdiv b - b := by rw [Int.mul_sub, Int.mul_one]
  have hstay : (r.tmod b = 0 ∨ (r.tmod b < 0 ↔ b < 0)) → r.fdiv b = r.tdiv b ∧ r.fmod b = r.tmod b := fun h =>
    fdiv_of (a := r) (q := r.tdiv b) (r := r.tmod b) h0 (by omega) (by omega) (by omega)
  have hdown : ¬ (r.tmod b = 0 ∨ (r.tmod b < 0 ↔ b < 0)) → r.fdiv b = r.tdiv b - 1 ∧ r.fmod b = r.tmod b + b := fun h =>
    fdiv_of (a := r) (q := r.tdiv b - 1) (r := r.tmod b + b) h0 (by omega) (by omega) (by omega)
  by_cases h1 : b = -1
  · subst h1
    have q1 : r.tdiv (-1) = -r := by rw [Int.tdiv_neg, Int.tdiv_one]
    have q2 : r.tmod (-1) = 0 := by rw [Int.tmod_neg, Int.tmod_one]
    refine ⟨by omega, by omega, ?_, hstay, hdown⟩
    rw [(fdiv_m1 r).1]
    exact fit_of (by omega)
  · refine ⟨tdiv_in hr h1 h0, by omega, ?_, hstay, hdown⟩
    by_cases hz : r.tmod b = 0 ∨ (r.tmod b < 0 ↔ b < 0)
    · obtain ⟨e1, e2⟩ := hstay hz
      exact div_same hr h0 h1 e1 e2 (.inl rfl)
    · obtain ⟨e1, e2⟩ := hdown hz
      exact div_same hr h0 h1 e1 e2 (.inr ⟨rfl, fun h => hz (.inl h)⟩)
set_option maxRecDepth 100000 in
set_option maxHeartbeats 12800000 in
theorem rrebased_any {w : World} {X : Ar} (hX : X.Is w) (r0 : Int) (hr : -9223372036854775808 ≤ r0 ∧ r0 ≤ 9223372036854775807) (hN : X.an ≤ 4096) (hsn : X.sn ≤ 8) :
    Calls Try.prog 62 #[X.v, .int .i64 r0] w (MadeE w (anS X.s X.a r0) (anA X.a r0) (anE X.a r0)) := by
  obtain ⟨sa, sn, sc, aa, an, ac, s, a⟩ := X
  simp only [Ar.v]
  simp only at hN hsn
  have HLX := Lib.hid (show s.length = sn ∧ a.length = an from ⟨hX.shp.len, hX.ats.len⟩)
  have HX := Lib.hid hX
  obtain ⟨W, HW⟩ : ∃ z, Hid ((w.alloc (.cells #[.slice sa sn sc, .slice aa an ac] 38)).alloc (.cells #[.slice none 0 0, .slice none 0 0] 38) = z) := ⟨_, rfl⟩
  have h0 := ((Sp.start Non w).alloc 38 2 1 #[.slice sa sn sc, .slice aa an ac] rfl (by decide)).alloc 38 2 1 #[.slice none 0 0, .slice none 0 0] rfl (by decide)
  rw [HW.out] at h0
  obtain ⟨g, HG⟩ : ∃ z, Hid (w.heap.size = z) := ⟨_, rfl⟩
  have H1_ := h0
  try simp only [List.cons_append, List.nil_append, List.set_cons_zero, List.set_cons_succ, List.map_cons, List.map_nil, List.getD_cons_zero, List.getD_cons_succ, World.size_alloc] at H1_
  have H1 := Lib.hid H1_
  clear H1_
  rw [HG.out] at H1
  have BAD : Hid (∀ w1, Below W.heap.size W w1 → ∀ e u v, MadeE w [] [] e (.returned (.tuple #[.agg #[.slice none 0 0, .slice none 0 0], .int .i64 e])) ((w1.setCell ⟨g + 1, 0, none⟩ u).setCell ⟨g + 1, 1, none⟩ v)) := fun w1 hb e u v => made_nil e (((H1.out.via hb).put (i := 1) rfl 0 u).put (i := 1) rfl 1 v).belowN
  obtain ⟨E, HE⟩ : ∃ z, Hid (anE a r0 = z) := ⟨_, rfl⟩
  obtain ⟨S, HS⟩ : ∃ z, Hid (anS s a r0 = z) := ⟨_, rfl⟩
  obtain ⟨A, HA⟩ : ∃ z, Hid (anA a r0 = z) := ⟨_, rfl⟩
  rw [HE.out, HS.out, HA.out]
  have eE : E = match anGo a r0 an with | none => 14 | some _ => 0 := by rw [← HE.out, anE, HLX.out.2]; cases anGo a r0 an <;> rfl
  have eS : S = match anGo a r0 an with | none => [] | some _ => s := by rw [← HS.out, anS, HLX.out.2]; cases anGo a r0 an <;> rfl
  have eA : A = match anGo a r0 an with | none => [] | some (_, ds) => ds := by rw [← HA.out, anA, HLX.out.2]; cases anGo a r0 an <;> rfl
  have HEE := Lib.hid (And.intro eE (And.intro eS eA))
  clear h0 HE HS HA eE eS eA hX
  obtain ⟨i0, hi0, hza, hzb, hzc⟩ := info_parts (P := Try.prog) (e := 3) (z := .int .i64 0) (size := 1) (bytes := 8) (by kernel_rfl)
  obtain ⟨j0, hj0, hya, hyb, hyc⟩ := info_parts (P := Try.prog) (e := 2) (z := .int .i64 0) (size := 1) (bytes := 8) (by kernel_rfl)
  have H4 : Hid (Sp Non w W [Pt.row ⟨38, 2, some ⟨g, 0, none⟩, 1, 1, [.slice sa sn sc, .slice aa an ac]⟩, Pt.row ⟨38, 2, some ⟨g + 1, 0, none⟩, 1, 1, [.slice none 0 0, .slice none 0 0]⟩, Pt.ints 3 none 0 0 ([]), Pt.ints 2 none 0 0 ([])]) := (H1.out.intsNew (E := 3) (zs := []) (World.ownsRow_nil _ _ _ _) (Below.refl _ _) (by omega) (fun i => by simp [List.getD])).intsNew (E := 2) (zs := []) (World.ownsRow_nil _ _ _ _) (Below.refl _ _) (by omega) (fun i => by simp [List.getD])
  have HA0 := Lib.hid (H4.out.via (adrew1 W))
  have HB0 := Lib.hid ((H4.out.alloc 38 2 1 #[.slice none 0 0, .slice none 0 0] rfl (by decide)).via (adrew1 _))
  have LS0 := Lib.hid (HX.out.below HA0.out.belowN (Nat.le_refl _)).shp
  have LA0 := Lib.hid (HX.out.below HA0.out.belowN (Nat.le_refl _)).ats
  have LS1 := Lib.hid (HX.out.below HB0.out.belowN (Nat.le_refl _)).shp
  have LA1 := Lib.hid (HX.out.below HB0.out.belowN (Nat.le_refl _)).ats
  have bs0 : (0 + sn) * 8 ≤ 140737488351232 := by omega
  have ba0 : (0 + an) * 8 ≤ 140737488351232 := by omega
  have zs0 : 0 + sn = sn := by omega
  have za0 : 0 + an = an := by omega
  have x0 := H1.out.cell (i := 0) rfl 0 _ rfl
  have x1 := H1.out.cell (i := 0) rfl 1 _ rfl
  have HBW := Lib.hid (H4.out.alloc 38 2 1 #[.slice none 0 0, .slice none 0 0] rfl (by decide))
  have xb0 := HBW.out.cell (i := 0) rfl 0 _ rfl
  have xb1 := HBW.out.cell (i := 0) rfl 1 _ rfl
  have zb0 := HBW.out.cell (i := 4) rfl 0 _ rfl
  have zb1 := HBW.out.cell (i := 4) rfl 1 _ rfl
  have hgl := (H1.out.rlt (i := 0) rfl).1
  have ne1 : ¬ g = W.heap.size := by omega
  have ne2 : ¬ W.heap.size = g := by omega
  have HGL := Lib.hid hgl
  clear hgl
  have ST0 : True := trivial
  go_enter Try.func62, Try.ntmps62
  go_upto_region 1 with fail
  rw [HW.out, HG.out]
  go_cut [6] from 11 to 18 (fun v6 wx => ∃ (g6 : Nat) (po : Option Addr) (pc : Nat) (qo : Option Addr) (qc : Nat), v6 = .pointer (some ⟨g6, 0, none⟩) ∧ Hid (Sp Non w wx [Pt.row ⟨38, 2, some ⟨g, 0, none⟩, 1, 1, [.slice sa sn sc, .slice aa an ac]⟩, Pt.row ⟨38, 2, some ⟨g + 1, 0, none⟩, 1, 1, [.slice none 0 0, .slice none 0 0]⟩, Pt.ints 3 po sn pc (s), Pt.ints 2 qo an qc (a), Pt.row ⟨38, 2, some ⟨g6, 0, none⟩, 1, 1, [.slice po sn pc, .slice qo an qc]⟩]))
  case first =>
    go_region_law (first
      | (have hreq := ST0; refine Sp.step_loc HA0.out rfl _ _ 25 (by rfl) 3 i0 Try.underlying25 hi0 hza hzb hzc (i := 2) rfl (by rfl) (by rfl) LS0.out bs0 ?_; intro bp dp w9 h9; simp only [Nat.zero_add, List.nil_append, List.set_cons_zero, List.set_cons_succ] at h9; have H9 := Lib.hid h9; clear h9 hreq ST0; have LL9 := Lib.hid (HX.out.below H9.out.belowN (Nat.le_refl _)).ats; have PA := H9; have LLPA := LL9; have H9b := Lib.hid (H9.out.alloc 38 2 1 #[.slice none 0 0, .slice none 0 0] rfl (by decide)); have LL9b := Lib.hid (HX.out.below H9b.out.belowN (Nat.le_refl _)).ats; have PAb := H9b; have LLPAb := LL9b; clear H9b LL9b; have hsz := H9.out.out.size; have hlt9 := (H9.out.rlt (i := 0) rfl).1; have ne3 : ¬ g = w9.heap.size := (by omega); have ne4 : ¬ w9.heap.size = g := (by omega); clear hsz hlt9; clear H9 LL9; clear x0 x1; have x0 := PA.out.cell (i := 0) rfl 0 _ rfl; have x1 := PA.out.cell (i := 0) rfl 1 _ rfl; have x0b := PAb.out.cell (i := 0) rfl 0 _ rfl; have x1b := PAb.out.cell (i := 0) rfl 1 _ rfl; have z0b := PAb.out.cell (i := 4) rfl 0 _ rfl; have z1b := PAb.out.cell (i := 4) rfl 1 _ rfl; have z2b := PAb.out.frozen (i := 4) rfl 0; have z3b := PAb.out.frozen (i := 4) rfl 1)
      | (have hreq := ST0; refine Sp.step_loc HB0.out rfl _ _ 25 (by rfl) 3 i0 Try.underlying25 hi0 hza hzb hzc (i := 2) rfl (by rfl) (by rfl) LS1.out bs0 ?_; intro bp dp w9 h9; simp only [Nat.zero_add, List.nil_append, List.set_cons_zero, List.set_cons_succ] at h9; have H9 := Lib.hid h9; clear h9 hreq ST0; have LL9 := Lib.hid (HX.out.below H9.out.belowN (Nat.le_refl _)).ats; have PB := H9; have LLPB := LL9; clear H9 LL9; clear x0 x1; have x0 := PB.out.cell (i := 0) rfl 0 _ rfl; have x1 := PB.out.cell (i := 0) rfl 1 _ rfl; have z0 := PB.out.cell (i := 4) rfl 0 _ rfl; have z1 := PB.out.cell (i := 4) rfl 1 _ rfl; have z2 := PB.out.frozen (i := 4) rfl 0; have z3 := PB.out.frozen (i := 4) rfl 1)
      | (have hreq := ST0; refine Sp.step_loc HA0.out rfl _ _ 28 (by rfl) 2 j0 Try.underlying28 hj0 hya hyb hyc (i := 3) rfl (by rfl) (by rfl) LA0.out ba0 ?_; intro bq dq w9 h9; simp only [Nat.zero_add, List.nil_append, List.set_cons_zero, List.set_cons_succ] at h9; have H9 := Lib.hid h9; clear h9 hreq ST0; have LL9 := Lib.hid (HX.out.below H9.out.belowN (Nat.le_refl _)).shp; have QA := H9; have LLQA := LL9; have H9b := Lib.hid (H9.out.alloc 38 2 1 #[.slice none 0 0, .slice none 0 0] rfl (by decide)); have LL9b := Lib.hid (HX.out.below H9b.out.belowN (Nat.le_refl _)).shp; have QAb := H9b; have LLQAb := LL9b; clear H9b LL9b; have hsz := H9.out.out.size; have hlt9 := (H9.out.rlt (i := 0) rfl).1; have ne3 : ¬ g = w9.heap.size := (by omega); have ne4 : ¬ w9.heap.size = g := (by omega); clear hsz hlt9; clear H9 LL9; clear x0 x1; have x0 := QA.out.cell (i := 0) rfl 0 _ rfl; have x1 := QA.out.cell (i := 0) rfl 1 _ rfl; have x0b := QAb.out.cell (i := 0) rfl 0 _ rfl; have x1b := QAb.out.cell (i := 0) rfl 1 _ rfl; have z0b := QAb.out.cell (i := 4) rfl 0 _ rfl; have z1b := QAb.out.cell (i := 4) rfl 1 _ rfl; have z2b := QAb.out.frozen (i := 4) rfl 0; have z3b := QAb.out.frozen (i := 4) rfl 1)
      | (have hreq := ST0; refine Sp.step_loc HB0.out rfl _ _ 28 (by rfl) 2 j0 Try.underlying28 hj0 hya hyb hyc (i := 3) rfl (by rfl) (by rfl) LA1.out ba0 ?_; intro bq dq w9 h9; simp only [Nat.zero_add, List.nil_append, List.set_cons_zero, List.set_cons_succ] at h9; have H9 := Lib.hid h9; clear h9 hreq ST0; have LL9 := Lib.hid (HX.out.below H9.out.belowN (Nat.le_refl _)).shp; have QB := H9; have LLQB := LL9; clear H9 LL9; clear x0 x1; have x0 := QB.out.cell (i := 0) rfl 0 _ rfl; have x1 := QB.out.cell (i := 0) rfl 1 _ rfl; have z0 := QB.out.cell (i := 4) rfl 0 _ rfl; have z1 := QB.out.cell (i := 4) rfl 1 _ rfl; have z2 := QB.out.frozen (i := 4) rfl 0; have z3 := QB.out.frozen (i := 4) rfl 1)
      | (have hreq := PA; refine Sp.step_loc PA.out rfl _ _ 28 (by rfl) 2 j0 Try.underlying28 hj0 hya hyb hyc (i := 3) rfl (by rfl) (by rfl) LLPA.out ba0 ?_; intro bq dq w8 h8; simp only [Nat.zero_add, List.nil_append, List.set_cons_zero, List.set_cons_succ] at h8; have H8 := Lib.hid h8; clear h8; clear x0 x1; have x0 := H8.out.cell (i := 0) rfl 0 _ rfl; have x1 := H8.out.cell (i := 0) rfl 1 _ rfl)
      | (have hreq := PA; refine Sp.step_loc PAb.out rfl _ _ 28 (by rfl) 2 j0 Try.underlying28 hj0 hya hyb hyc (i := 3) rfl (by rfl) (by rfl) LLPAb.out ba0 ?_; intro bq dq w8 h8; simp only [Nat.zero_add, List.nil_append, List.set_cons_zero, List.set_cons_succ] at h8; have H8 := Lib.hid h8; clear h8; clear x0 x1; have x0 := H8.out.cell (i := 0) rfl 0 _ rfl; have x1 := H8.out.cell (i := 0) rfl 1 _ rfl; (try clear z0 z1 z2 z3); have z0 := H8.out.cell (i := 4) rfl 0 _ rfl; have z1 := H8.out.cell (i := 4) rfl 1 _ rfl; have z2 := H8.out.frozen (i := 4) rfl 0; have z3 := H8.out.frozen (i := 4) rfl 1)
      | (have hreq := PB; refine Sp.step_loc PB.out rfl _ _ 28 (by rfl) 2 j0 Try.underlying28 hj0 hya hyb hyc (i := 3) rfl (by rfl) (by rfl) LLPB.out ba0 ?_; intro bq dq w8 h8; simp only [Nat.zero_add, List.nil_append, List.set_cons_zero, List.set_cons_succ] at h8; have H8 := Lib.hid h8; clear h8; clear x0 x1; have x0 := H8.out.cell (i := 0) rfl 0 _ rfl; have x1 := H8.out.cell (i := 0) rfl 1 _ rfl; (try clear z0 z1 z2 z3); have z0 := H8.out.cell (i := 4) rfl 0 _ rfl; have z1 := H8.out.cell (i := 4) rfl 1 _ rfl; have z2 := H8.out.frozen (i := 4) rfl 0; have z3 := H8.out.frozen (i := 4) rfl 1)
      | (have hreq := QA; refine Sp.step_loc QA.out rfl _ _ 25 (by rfl) 3 i0 Try.underlying25 hi0 hza hzb hzc (i := 2) rfl (by rfl) (by rfl) LLQA.out bs0 ?_; intro bp dp w8 h8; simp only [Nat.zero_add, List.nil_append, List.set_cons_zero, List.set_cons_succ] at h8; have H8 := Lib.hid h8; clear h8; clear x0 x1; have x0 := H8.out.cell (i := 0) rfl 0 _ rfl; have x1 := H8.out.cell (i := 0) rfl 1 _ rfl)
      | (have hreq := QA; refine Sp.step_loc QAb.out rfl _ _ 25 (by rfl) 3 i0 Try.underlying25 hi0 hza hzb hzc (i := 2) rfl (by rfl) (by rfl) LLQAb.out bs0 ?_; intro bp dp w8 h8; simp only [Nat.zero_add, List.nil_append, List.set_cons_zero, List.set_cons_succ] at h8; have H8 := Lib.hid h8; clear h8; clear x0 x1; have x0 := H8.out.cell (i := 0) rfl 0 _ rfl; have x1 := H8.out.cell (i := 0) rfl 1 _ rfl; (try clear z0 z1 z2 z3); have z0 := H8.out.cell (i := 4) rfl 0 _ rfl; have z1 := H8.out.cell (i := 4) rfl 1 _ rfl; have z2 := H8.out.frozen (i := 4) rfl 0; have z3 := H8.out.frozen (i := 4) rfl 1)
      | (have hreq := QB; refine Sp.step_loc QB.out rfl _ _ 25 (by rfl) 3 i0 Try.underlying25 hi0 hza hzb hzc (i := 2) rfl (by rfl) (by rfl) LLQB.out bs0 ?_; intro bp dp w8 h8; simp only [Nat.zero_add, List.nil_append, List.set_cons_zero, List.set_cons_succ] at h8; have H8 := Lib.hid h8; clear h8; clear x0 x1; have x0 := H8.out.cell (i := 0) rfl 0 _ rfl; have x1 := H8.out.cell (i := 0) rfl 1 _ rfl; (try clear z0 z1 z2 z3); have z0 := H8.out.cell (i := 4) rfl 0 _ rfl; have z1 := H8.out.cell (i := 4) rfl 1 _ rfl; have z2 := H8.out.frozen (i := 4) rfl 0; have z3 := H8.out.frozen (i := 4) rfl 1)
      )
    all_goals
      go_wp2_with fail
      go_meet
      first
      | exact ⟨w8.heap.size, bp, dp, bq, dq, rfl, H8.out.alloc 38 2 1 #[.slice bp sn dp, .slice bq an dq] rfl (by decide)⟩
      | exact ⟨w9.heap.size, bp, dp, bq, dq, rfl, (H8.out.put (i := 4) rfl 0 (.slice bp sn dp)).put (i := 4) rfl 1 (.slice bq an dq)⟩
      | exact ⟨W.heap.size, bp, dp, bq, dq, rfl, (H8.out.put (i := 4) rfl 0 (.slice bp sn dp)).put (i := 4) rfl 1 (.slice bq an dq)⟩
  case rest =>

    obtain ⟨g6, po, pc, qo, qc, rfl, HO0⟩ := hcut
    obtain ⟨U, hU⟩ : ∃ z : World, z = wc := ⟨_, rfl⟩
    subst hU
    clear x0 x1 xb0 xb1 zb0 zb1 ne1 ne2 HBW HA0 HB0 LS0 LA0 LS1 LA1 H4 hi0 hza hzb hzc hj0 hya hyb hyc
    have HST0 : Hid (Sp Non w U [Pt.row ⟨38, 2, some ⟨g, 0, none⟩, 1, 1, [.slice sa sn sc, .slice aa an ac]⟩, Pt.row ⟨38, 2, some ⟨g + 1, 0, none⟩, 1, 1, [.slice none 0 0, .slice none 0 0]⟩, Pt.ints 3 po sn pc (s), Pt.row ⟨2, 1, qo, an, qc, (a.take (an - 0) ++ []).map (Value.int .i64)⟩, Pt.row ⟨38, 2, some ⟨g6, 0, none⟩, 1, 1, [.slice po sn pc, .slice qo an qc]⟩]) := by
      show Sp _ _ _ _
      rw [Nat.sub_zero, List.append_nil, List.take_of_length_le (by rw [HLX.out.2]; exact Nat.le_refl _)]
      exact HO0.out.toRow (i := 3) rfl
    have x1 := HO0.out.cell (i := 0) rfl 1 _ rfl
    clear HO0
    go_wp2_with fail
    clear x1
    go_loopw [1, 7] (fun v1 v7 wr => ∃ (j : Nat) (r : Int) (ds : List Int), j ≤ an ∧ v7 = .int .i64 ((an : Int) - 1 - j) ∧ v1 = .int .i64 r ∧ Hid (anGo a r0 j = some (r, ds) ∧ (-9223372036854775808 ≤ r ∧ r ≤ 9223372036854775807) ∧ ∀ i, -9223372036854775808 ≤ ds.getD i 0 ∧ ds.getD i 0 ≤ 9223372036854775807) ∧ Hid (Sp Non w wr [Pt.row ⟨38, 2, some ⟨g, 0, none⟩, 1, 1, [.slice sa sn sc, .slice aa an ac]⟩, Pt.row ⟨38, 2, some ⟨g + 1, 0, none⟩, 1, 1, [.slice none 0 0, .slice none 0 0]⟩, Pt.ints 3 po sn pc (s), Pt.row ⟨2, 1, qo, an, qc, (a.take (an - j) ++ ds).map (Value.int .i64)⟩, Pt.row ⟨38, 2, some ⟨g6, 0, none⟩, 1, 1, [.slice po sn pc, .slice qo an qc]⟩])) (fun _ v7 _ => (RowKit.intOf v7 + 1).toNat)
    case atStart => exact ⟨0, r0, [], by omega, by first | rfl | go_num | simp, rfl, ⟨rfl, hr, fun i => by simp [List.getD]⟩, HST0⟩
    case round =>
      clear HST0
      obtain ⟨j, r, ds, hj, rfl, rfl, HG2, HQ⟩ := hrel
      by_cases hlt : j < an
      · obtain ⟨k, hk⟩ : ∃ k, k + 1 + j = an := ⟨an - 1 - j, by omega⟩
        have hkv : (an : Int) - 1 - j = k := by omega
        rw [hkv]
        have hk0 : (0 : Int) ≤ k := by omega
        have hkan : (k : Int) < an := by omega
        have hk4 : (k : Int) ≤ 4096 := by omega
        obtain ⟨b1, o1, e1, hc1⟩ := (HX.out.below HQ.out.belowN (Nat.le_refl _)).ats.at (by simp only; omega)
        have d1 := hc1 k (by simp only; omega)
        simp only at e1 d1
        have hbr := HX.out.ats.rng k
        simp only at hbr
        obtain ⟨b, HB⟩ : ∃ z, Hid (a.getD k 0 = z) := ⟨_, rfl⟩
        rw [HB.out] at d1 hbr
        subst e1
        obtain ⟨gq, hgq⟩ := (HQ.out.rcap (i := 3) rfl).2.2.2.2 (by have := (HQ.out.rcap (i := 3) rfl).1; omega)
        subst hgq
        have hak : an - j = k + 1 := by omega
        have hoj : (a.take (an - j) ++ ds).getD k 0 = b := by
          rw [hak, List.getD_eq_getElem?_getD, List.getElem?_append_left (by rw [List.length_take, HLX.out.2]; omega), List.getElem?_take_of_lt (by omega), ← List.getD_eq_getElem?_getD, HB.out]
        have hset : ∀ v : Int, (a.take (an - j) ++ ds).set k v = a.take (an - (j + 1)) ++ (v :: ds) := fun v => by
          rw [hak, show an - (j + 1) = k by omega, take_snoc (by rw [HLX.out.2]; omega), List.append_assoc, List.set_append_right _ _ (by rw [List.length_take]; omega), List.length_take, HLX.out.2, show k - min k an = 0 by omega]
          rfl
        have hstep : anGo a r0 (j + 1) = if b = 0 then some (0, r :: ds) else if fit (r.fdiv b) then some (r.fdiv b, r.fmod b :: ds) else none := by
          rw [anGo, HG2.out.1, HLX.out.2, show an - 1 - j = k by omega, HB.out]
        have HSTEP := Lib.hid hstep
        have x1 := HQ.out.cell (i := 0) rfl 1 _ rfl
        have z1 := HQ.out.cell (i := 4) rfl 1 _ rfl
        have t0 := HQ.out.cell (i := 3) rfl k (.int .i64 ((a.take (an - j) ++ ds).getD k 0)) (getD_map_int _ _ (by rw [hak, List.length_append, List.length_take, HLX.out.2]; omega))
        rw [hoj] at t0
        have t1 := HQ.out.frozen (i := 3) rfl k
        have HPUT : Hid (∀ (q : Nat) (v : Int), Sp Non w ((wr.drewN q).setCell ⟨gq, k, none⟩ (.int .i64 v)) [Pt.row ⟨38, 2, some ⟨g, 0, none⟩, 1, 1, [.slice sa sn sc, .slice (some ⟨b1, o1, none⟩) an ac]⟩, Pt.row ⟨38, 2, some ⟨g + 1, 0, none⟩, 1, 1, [.slice none 0 0, .slice none 0 0]⟩, Pt.ints 3 po sn pc (s), Pt.row ⟨2, 1, some ⟨gq, 0, none⟩, an, qc, (a.take (an - (j + 1)) ++ (v :: ds)).map (Value.int .i64)⟩, Pt.row ⟨38, 2, some ⟨g6, 0, none⟩, 1, 1, [.slice po sn pc, .slice (some ⟨gq, 0, none⟩) an qc]⟩]) := fun q v => by
          have h2 := (HQ.out.via (adrew wr q)).put (i := 3) rfl k (.int .i64 v)
          rw [← List.map_set, hset] at h2
          exact h2
        have HBR := Lib.hid hbr
        have HJ1 := Lib.hid (show (k : Int) - 1 = (an : Int) - 1 - ((j + 1 : Nat) : Int) by omega)
        clear hc1 hbr hset hstep hoj
        by_cases hb0 : b = 0
        · have hgo : anGo a r0 (j + 1) = some (0, r :: ds) := by rw [HSTEP.out, if_pos hb0]
          have HG3 : Hid (anGo a r0 (j + 1) = some (0, r :: ds) ∧ (-9223372036854775808 ≤ (0 : Int) ∧ (0 : Int) ≤ 9223372036854775807) ∧ ∀ i, -9223372036854775808 ≤ (r :: ds).getD i 0 ∧ (r :: ds).getD i 0 ≤ 9223372036854775807) := ⟨hgo, by omega, rng_cons HG2.out.2.1 HG2.out.2.2⟩
          have HNX := Lib.hid (HPUT.out 0 r)
          subst hb0
          clear hgo HQ HPUT hkv hak
          go_wp2
          go_roundw
          case rel => first | exact ⟨j + 1, 0, r :: ds, by omega, intv HJ1.out, rfl, HG3, HNX⟩ | ((repeat apply Exists.intro); refine ⟨⟨j + 1, 0, r :: ds, by omega, ?_, rfl, HG3, HNX⟩, rfl⟩; exact intv HJ1.out)
          case measure => simp [RowKit.intOf] <;> omega
        · have hq0 : (b == 0) = false := by simpa using hb0
          by_cases hs : b = -1 ∧ r = -9223372036854775808
          · obtain ⟨rfl, rfl⟩ := hs
            have hnone : anGo a r0 (j + 1) = none := by rw [HSTEP.out, if_neg hb0, if_neg (by decide)]
            have hn2 : anGo a r0 an = none := by
              have := anGo_none hnone (an - (j + 1))
              rw [show j + 1 + (an - (j + 1)) = an by omega] at this
              exact this
            have r1 : E = 14 := by rw [HEE.out.1, hn2]
            have r2 : S = [] := by rw [HEE.out.2.1, hn2]
            have r3 : A = [] := by rw [HEE.out.2.2, hn2]
            subst r1 r2 r3
            have y0 := HQ.out.cell (i := 1) rfl 0 _ rfl
            have y1 := HQ.out.cell (i := 1) rfl 1 _ rfl
            have y2 := HQ.out.frozen (i := 1) rfl 0
            have y3 := HQ.out.frozen (i := 1) rfl 1
            have HF : Hid (∀ u v, MadeE w [] [] 14 (.returned (.tuple #[.agg #[.slice none 0 0, .slice none 0 0], .int .i64 14])) ((wr.setCell ⟨g + 1, 0, none⟩ u).setCell ⟨g + 1, 1, none⟩ v)) := fun u v => made_nil 14 ((HQ.out.put (i := 1) rfl 0 u).put (i := 1) rfl 1 v).belowN
            clear hnone hn2 HQ HPUT hkv hak
            go_wp2
            exact bodyPost_ret (v := .tuple #[.agg #[.slice none 0 0, .slice none 0 0], .int .i64 14]) (by simp [results, Try.results62, go_sem, *]) rfl (HF.out _ _)
          · obtain ⟨p1, p2, p3, p4, p5⟩ := dv_plain HG2.out.2.1 HBR.out hb0 hs
            have hgo : anGo a r0 (j + 1) = some (r.fdiv b, r.fmod b :: ds) := by rw [HSTEP.out, if_neg hb0, if_pos p3]
            have hfr := (fit_iff _).1 p3
            obtain ⟨q, hq⟩ : ∃ q, q = r.tdiv b := ⟨_, rfl⟩
            obtain ⟨d, hd⟩ : ∃ d, d = r.tmod b := ⟨_, rfl⟩
            rw [← hq] at p1 p4 p5
            rw [← hd] at p2 p4 p5
            have w1 : IntKind.i64.wrap (r.tdiv b) = q := by rw [← hq]; exact IntWalk.i64_in _ p1
            have w2 : IntKind.i64.wrap (r.tmod b) = d := by rw [← hd]; exact IntWalk.i64_in _ p2
            have w3 : wrap64 (r.tdiv b) = q := by rw [← IntWalk.i64_left]; exact w1
            have w4 : r.tmod b = d := hd.symm
            have FIN : Hid (∀ Q D : Int, r.fdiv b = Q → r.fmod b = D → Hid (anGo a r0 (j + 1) = some (Q, D :: ds) ∧ (-9223372036854775808 ≤ Q ∧ Q ≤ 9223372036854775807) ∧ ∀ i, -9223372036854775808 ≤ (D :: ds).getD i 0 ∧ (D :: ds).getD i 0 ≤ 9223372036854775807)) := fun Q D e1 e2 => by
              subst e1 e2
              refine ⟨hgo, hfr, rng_cons ?_ HG2.out.2.2⟩
              have h7 := fmod_spec r b hb0
              have h8 := HBR.out
              omega
            have HQR := Lib.hid (And.intro p1 p2)
            have HSP : Hid ((b == -1) = false ∨ ((b == -1) = true ∧ (r == -9223372036854775808) = false)) := by
              by_cases hb1 : b = -1
              · exact .inr ⟨by simpa using hb1, by simp; omega⟩
              · exact .inl (by simpa using hb1)
            have hsign : (d = 0 ∨ (¬ d = 0 ∧ d < 0 ∧ b < 0) ∨ (¬ d = 0 ∧ ¬ d < 0 ∧ ¬ b < 0)) ∨ ((¬ d = 0 ∧ d < 0 ∧ ¬ b < 0) ∨ (¬ d = 0 ∧ ¬ d < 0 ∧ b < 0)) := by omega
            have hbm1 : ¬ (b = -1 ∧ r = -9223372036854775808) := hs
            clear hgo hq hd p3 hs HSTEP hkv hak HQ
            rcases hsign with hst | hdn
            · obtain ⟨e1, e2⟩ := p4 (by omega)
              have HG3 := FIN.out _ _ e1 e2
              have HNX := Lib.hid (fun n => HPUT.out n d)
              clear e1 e2 p4 p5 p1 p2 FIN HPUT hfr
              have hsp := HSP.out
              rcases hst with rfl | ⟨g1, g2, g3⟩ | ⟨g1, g2, g3⟩
              · rcases hsp with u1 | ⟨u1, u2⟩
                all_goals
                  try have g0 : (d != 0) = true := by simpa using g1
                  try have gt : (!decide (d < 0) == decide (b < 0)) = false := by simp [g2, g3]
                  clear hbm1 HSP
                  go_wp2_with fail
                  go_quiet (fail)
                  go_wp2
                  go_roundw
                  case rel => first | exact ⟨j + 1, q, _ :: ds, by omega, intv HJ1.out, rfl, HG3, Lib.hid (HNX.out _)⟩ | ((repeat apply Exists.intro); refine ⟨⟨j + 1, q, _ :: ds, by omega, ?_, rfl, HG3, Lib.hid (HNX.out _)⟩, rfl⟩; exact intv HJ1.out)
                  case measure => simp [RowKit.intOf] <;> omega
              · rcases hsp with u1 | ⟨u1, u2⟩
                all_goals
                  try have g0 : (d != 0) = true := by simpa using g1
                  try have gt : (!decide (d < 0) == decide (b < 0)) = false := by simp [g2, g3]
                  clear hbm1 HSP
                  go_wp2_with fail
                  go_quiet (fail)
                  go_wp2
                  go_roundw
                  case rel => first | exact ⟨j + 1, q, _ :: ds, by omega, intv HJ1.out, rfl, HG3, Lib.hid (HNX.out _)⟩ | ((repeat apply Exists.intro); refine ⟨⟨j + 1, q, _ :: ds, by omega, ?_, rfl, HG3, Lib.hid (HNX.out _)⟩, rfl⟩; exact intv HJ1.out)
                  case measure => simp [RowKit.intOf] <;> omega
              · rcases hsp with u1 | ⟨u1, u2⟩
                all_goals
                  try have g0 : (d != 0) = true := by simpa using g1
                  try have gt : (!decide (d < 0) == decide (b < 0)) = false := by simp [g2, g3]
                  clear hbm1 HSP
                  go_wp2_with fail
                  go_quiet (fail)
                  go_wp2
                  go_roundw
                  case rel => first | exact ⟨j + 1, q, _ :: ds, by omega, intv HJ1.out, rfl, HG3, Lib.hid (HNX.out _)⟩ | ((repeat apply Exists.intro); refine ⟨⟨j + 1, q, _ :: ds, by omega, ?_, rfl, HG3, Lib.hid (HNX.out _)⟩, rfl⟩; exact intv HJ1.out)
                  case measure => simp [RowKit.intOf] <;> omega
            · obtain ⟨e1, e2⟩ := p5 (by omega)
              have HG3 := FIN.out _ _ e1 e2
              have HNX := Lib.hid (fun n => HPUT.out n (d + b))
              have hq1 : -9223372036854775808 ≤ q - 1 := by rw [← e1]; exact hfr.1
              have hdb := HG3.out.2.2 0
              rw [List.getD_cons_zero] at hdb
              clear e1 e2 p4 p5 p1 p2 FIN HPUT hfr
              have hq2 := HQR.out
              have hsp := HSP.out
              rcases hdn with ⟨g1, g2, g3⟩ | ⟨g1, g2, g3⟩
              · rcases hsp with u1 | ⟨u1, u2⟩
                all_goals
                  have g0 : (d != 0) = true := by simpa using g1
                  have gt : (!decide (d < 0) == decide (b < 0)) = true := by simp [g2, g3]
                  try have gu : (!decide (b < 0)) = true := by simp; omega
                  try have gv : (!decide (d < 0)) = true := by simp; omega
                  clear hbm1 HSP
                  go_wp2_with fail
                  go_quiet (fail)
                  go_wp2
                  go_roundw
                  case rel => first | exact ⟨j + 1, q - 1, (d + b) :: ds, by omega, intv HJ1.out, rfl, HG3, Lib.hid (HNX.out _)⟩ | ((repeat apply Exists.intro); refine ⟨⟨j + 1, q - 1, (d + b) :: ds, by omega, ?_, rfl, HG3, Lib.hid (HNX.out _)⟩, rfl⟩; exact intv HJ1.out)
                  case measure => simp [RowKit.intOf] <;> omega
              · rcases hsp with u1 | ⟨u1, u2⟩
                all_goals
                  have g0 : (d != 0) = true := by simpa using g1
                  have gt : (!decide (d < 0) == decide (b < 0)) = true := by simp [g2, g3]
                  try have gu : (!decide (b < 0)) = true := by simp; omega
                  try have gv : (!decide (d < 0)) = true := by simp; omega
                  clear hbm1 HSP
                  go_wp2_with fail
                  go_quiet (fail)
                  go_wp2
                  go_roundw
                  case rel => first | exact ⟨j + 1, q - 1, (d + b) :: ds, by omega, intv HJ1.out, rfl, HG3, Lib.hid (HNX.out _)⟩ | ((repeat apply Exists.intro); refine ⟨⟨j + 1, q - 1, (d + b) :: ds, by omega, ?_, rfl, HG3, Lib.hid (HNX.out _)⟩, rfl⟩; exact intv HJ1.out)
                  case measure => simp [RowKit.intOf] <;> omega
      · obtain rfl : j = an := by omega
        have hkv : (j : Int) - 1 - j = -1 := by omega
        rw [hkv]
        have r1 : E = 0 := by rw [HEE.out.1, HG2.out.1]
        have r2 : S = s := by rw [HEE.out.2.1, HG2.out.1]
        have r3 : A = ds := by rw [HEE.out.2.2, HG2.out.1]
        subst r1 r2 r3
        have hsp := HQ.out
        rw [Nat.sub_self, List.take_zero, List.nil_append] at hsp
        have h7 := (hsp.toInts (i := 3) rfl (by omega) HG2.out.2.2).arrOf (i := 2) (j := 3) rfl (by decide) rfl
        have H7_ := h7
        try simp only [List.cons_append, List.nil_append, List.set_cons_zero, List.set_cons_succ, List.map_cons, List.map_nil, List.getD_cons_zero, List.getD_cons_succ, World.size_alloc] at H7_
        have H7 := Lib.hid H7_
        clear H7_
        have HF : Hid (∀ u v, MadeE w S A 0 (.returned (.tuple #[.agg #[.slice po sn pc, .slice qo j qc], .int .i64 0])) ((wr.setCell ⟨g + 1, 0, none⟩ u).setCell ⟨g + 1, 1, none⟩ v)) := fun u v => ((H7.out.put (i := 1) rfl 0 u).put (i := 1) rfl 1 v).madeE (i := 3) (B := ⟨po, sn, pc, qo, j, qc, S, A⟩) rfl 0
        have y0 := H7.out.cell (i := 1) rfl 0 _ rfl
        have y1 := H7.out.cell (i := 1) rfl 1 _ rfl
        have y2 := H7.out.frozen (i := 1) rfl 0
        have y3 := H7.out.frozen (i := 1) rfl 1
        have z0 := H7.out.cell (i := 4) rfl 0 _ rfl
        have z1 := H7.out.cell (i := 4) rfl 1 _ rfl
        clear hsp h7 H7 hkv HQ
        go_wp2
        exact bodyPost_ret (v := .tuple #[.agg #[.slice po sn pc, .slice qo j qc], .int .i64 0]) (by simp [results, Try.results62, go_sem, *]) rfl (HF.out _ _)
end Go.Proofs.Ytoippfoeghjdoaa

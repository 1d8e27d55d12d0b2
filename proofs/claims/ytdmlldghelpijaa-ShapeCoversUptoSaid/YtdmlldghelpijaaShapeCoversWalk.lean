/- ShapeCovers: the walk of the statement's function. -/
import Derived.Test.YtdmlldghelpijaaShapeCovPlain
namespace Go.Proofs.Ytdmlldghelpijaa
open Go.RowKit Go.Lib
set_option linter.unusedVariables false
set_option linter.unusedSimpArgs false
attribute [local go_sem] alloc_drewN setCell_drewN

theorem Lss.take {w : World} {ao : Option Addr} {n c : Nat} {zss : List (List Int)} (h : Lss w ao n c zss) {k : Nat} (hk : k ≤ n) : Lss w ao k c (zss.take k) := by
  have h1 := h.len; have h2 := h.cap; have h3 := h.big
  refine ⟨by simp; omega, by omega, by omega, h.top, fun h0 => ?_⟩
  obtain ⟨b, off, e, hlt, hc⟩ := h.mem (by omega)
  refine ⟨b, off, e, hlt, fun i hi => ?_⟩
  obtain ⟨ai, ni, ci, g1, g2⟩ := hc i (by omega)
  exact ⟨ai, ni, ci, g1, by simpa [List.getD, hi] using g2⟩
/-- The value that a row of lists holds at a place. -/
def rowV (w : World) (b off i : Nat) : Value := (w.cell? ⟨b, off + i, none⟩).getD (.slice none 0 0)
theorem lss_of_own {w : World} {base n c : Nat} {vo : Option Addr} {vs : Nat → Value} {zss : List (List Int)} (hO : w.ownsRow base 25 1 (.slice vo n c) n ((List.range n).map vs)) (hl : zss.length = n) (hb : n * 8 ≤ 140737488351232)
    (hz : ∀ i, i < n → ∃ ai ni ci, vs i = .slice ai ni ci ∧ Ls w ai ni ci (zss.getD i [])) : Lss w vo n c zss := by
  rcases hO.2 with ⟨e, rfl⟩ | ⟨g, cap, cur, e, hbg, hg, hnc, hcm, hcs, htk⟩
  · cases e; exact ⟨hl, Nat.le_refl _, hb, Nat.zero_le _, fun h => absurd h (by omega)⟩
  · cases e
    refine ⟨hl, hnc, hb, hcm, fun h0 => ⟨g, 0, rfl, (Array.getElem?_eq_some_iff.1 hg).1, fun i hi => ?_⟩⟩
    obtain ⟨ai, ni, ci, h1, h2⟩ := hz i hi
    refine ⟨ai, ni, ci, ?_, h2⟩
    rw [Nat.zero_add, hO.cellAt i (by omega)]
    simp [hi, h1]
theorem lss_three {w : World} {a1 a2 a3 : Option Addr} {n1 c1 n2 c2 n3 c3 : Nat} {s t u : List Int} (h1 : Ls w a1 n1 c1 s) (h2 : Ls w a2 n2 c2 t) (h3 : Ls w a3 n3 c3 u) :
    Lss (w.alloc (.cells #[.slice a1 n1 c1, .slice a2 n2 c2, .slice a3 n3 c3] 25)) (some ⟨w.heap.size, 0, none⟩) 3 3 [s, t, u] := by
  refine ⟨rfl, Nat.le_refl _, by omega, by unfold maxLen; omega, fun _ => ⟨w.heap.size, 0, rfl, by simp, fun i hi => ?_⟩⟩
  match i, hi with
  | 0, _ => exact ⟨_, _, _, by rw [World.cell?_alloc_at _ _ _ _ rfl]; rfl, h1.below (bal _ _) (Nat.le_refl _)⟩
  | 1, _ => exact ⟨_, _, _, by rw [World.cell?_alloc_at _ _ _ _ rfl]; rfl, h2.below (bal _ _) (Nat.le_refl _)⟩
  | 2, _ => exact ⟨_, _, _, by rw [World.cell?_alloc_at _ _ _ _ rfl]; rfl, h3.below (bal _ _) (Nat.le_refl _)⟩
theorem rev_getD {q : List (List Int)} {N i : Nat} (hl : q.length = N) (hi : i < N) : q.reverse.getD i [] = q.getD (N - 1 - i) [] := by
  simp only [List.getD]
  rw [List.getElem?_reverse (by omega), hl]
set_option maxRecDepth 100000 in
set_option maxHeartbeats 3200000 in
theorem walkShapeCovers {w : World} {ao : Option Addr} {n c : Nat} {zss : List (List Int)} (hS : Lss w ao n c zss) :
    Calls Try.prog 7 #[.slice ao n c] w (RetB w (.bool true)) := by
  have BG := Lib.hid (begun2_any w)
  have hcap := hS.cap
  have H0 := Lib.hid hS
  clear hS
  go_enter Try.func7, Try.ntmps7
  go_wp2_with fail
  refine BG.out.mono ?_; rintro e w1 ⟨rfl, hb1⟩
  have HB1 := Lib.hid hb1
  clear hb1
  go_upto_if 20 with (fail)
  go_cut [0] from 21 (fun v0 wx => ∃ (N : Nat) (q : List (List Int)), v0 = .slice ao N c ∧ N ≤ 200 ∧ Hid (Lss w ao N c q) ∧ wx = w1)
  case first =>
    by_cases hc : 200 < n
    · have hc1 : (200 : Int) < n := by omega
      have hc2 : (200 : Int) ≤ c := by omega
      go_wp2
      go_meet
      exact ⟨200, zss.take 200, rfl, Nat.le_refl _, H0.out.take (by omega), rfl⟩
    · have hc1 : ¬ (200 : Int) < n := by omega
      go_wp2
      go_meet
      exact ⟨n, zss, rfl, by omega, H0, rfl⟩
  case rest =>
    obtain ⟨N, q, rfl, hNb, HS, hw⟩ := hcut
    have hw' := hw.symm
    subst hw'
    have HLN := Lib.hid HS.out.len
    have CC := Lib.hid (fun w2 (hB : Below w.heap.size w w2) => cover_any (HS.out.below hB (Nat.le_refl _)))
    obtain ⟨E, HE⟩ : ∃ E, Hid ((cvR q).2 = E) := ⟨_, rfl⟩
    rw [HE.out] at CC
    go_wp2_with fail
    refine (CC.out w1 HB1.out).mono ?_; rintro e w2 ⟨po, pn, pc, rfl, hP, -, hb2⟩
    have HB2 : Hid (Below w.heap.size w w2) := bvia HB1.out hb2
    have HP := Lib.hid hP
    clear hP hb2
    by_cases hE : ¬ E = 0
    · have hnil := cvR_err (zss := q) (by rw [HE.out]; exact hE)
      have hpn : pn = 0 := by have h := HP.out.len; rw [hnil] at h; exact h.symm
      subst hpn
      have hE1 : (E != 0) = true := by simpa using hE
      have hE2 : (E == 0) = false := by simpa using hE
      clear hnil
      go_wp2
      go_ret
      exact RetB.mk (boolv (by first | rfl | simp)) HB2.out
    obtain rfl : E = 0 := by simpa using hE
    obtain ⟨hI, hrev⟩ := cvR_inv HE.out
    have hN0 : 0 < N := by
      rcases Nat.eq_zero_or_pos N with h | h
      · exfalso; have h2 := HE.out; rw [List.eq_nil_of_length_eq_zero (HLN.out.trans h)] at h2; simp [cvR] at h2
      · exact h
    have hN0' : (0 : Int) < N := by omega
    have hNz : ((N : Int) == 0) = false := by simp; omega
    have hNz2 : (N == 0) = false := by simp; omega
    obtain ⟨C, HC⟩ : ∃ C, Hid ((cvR q).1 = C) := ⟨_, rfl⟩
    rw [HC.out] at hI hrev HP
    have HI := Lib.hid hI
    have HREV := Lib.hid hrev
    obtain ⟨b, off, hao, hlb, hcs⟩ := HS.out.mem hN0
    subst hao
    have ROW : Hid (∀ i, i < N → ∃ ai ni ci, rowV w b off i = .slice ai ni ci ∧ ∀ W, Below w.heap.size w W → W.cell? ⟨b, off + i, none⟩ = some (.slice ai ni ci) ∧ Ls W ai ni ci (q.getD i [])) := by
      intro i hi
      obtain ⟨ai, ni, ci, g1, g2⟩ := hcs i hi
      exact ⟨ai, ni, ci, by simp [rowV, g1], fun W hW => ⟨(hW.cell (p := ⟨b, off + i, none⟩) hlb).trans g1, g2.below hW (Nat.le_refl _)⟩⟩
    clear hI hrev hlb hcs hE
    obtain ⟨i0, hi, hz0, hz1, hz2⟩ := info_parts (P := Try.prog) (e := 25) (z := .slice none 0 0) (size := 1) (bytes := 24) (by kernel_rfl)
    go_wp2_with fail
    go_loopw [5, 6, 7] (fun v5 v6 v7 wr => ∃ (k : Nat) (tp : Option Addr) (tc L : Nat), k ≤ N ∧ v7 = .int .i64 k ∧ v6 = .int .i64 L ∧ v5 = .slice tp k tc ∧ Hid (lgN q k = L) ∧ Hid (wr.ownsRow w2.heap.size 25 1 (.slice tp k tc) k ((List.range k).map fun j => rowV w b off (N - 1 - j))) ∧ Hid (Below w2.heap.size w2 wr)) (fun _ _ i _ => N - (RowKit.intOf i).toNat)
    case atStart => exact ⟨0, none, 0, 0, Nat.zero_le _, rfl, rfl, rfl, rfl, World.ownsRow_nil _ _ _ _, Below.refl _ _⟩
    case round =>
      obtain ⟨k, tp, tc, L, hk, rfl, rfl, rfl, HL, HO, HB⟩ := hrel
      have HBW : Hid (Below w.heap.size w wr) := bvia HB2.out HB.out
      by_cases hlt : k < N
      · have hlt' : (k : Int) < N := by omega
        have hj : N - 1 - k < N := by omega
        obtain ⟨ai, ni, ci, hr1, hr2⟩ := ROW.out (N - 1 - k) hj
        have d1 := (hr2 wr HBW.out).1
        have y1 : IntKind.i64.wrap ((N : Int) - 1) = N - 1 := IntWalk.i64_in _ (by omega)
        have y2 : IntKind.i64.wrap ((N : Int) - 1 - k) = (N - 1 - k : Nat) := by rw [show (N : Int) - 1 - k = (N - 1 - k : Nat) by omega]; exact IntWalk.i64_in _ (by omega)
        have y3 : ((N - 1 - k : Nat) : Int) < N := by omega
        obtain ⟨J, hJ⟩ : ∃ J, N - 1 - k = J := ⟨_, rfl⟩
        rw [hJ] at d1 y2 y3 hr1
        have HR1 := Lib.hid hr1
        have HJ := Lib.hid hJ
        have HO' := Lib.hid (HO.out.alloc (.cells #[.slice ai ni ci] 25))
        have hbase : w2.heap.size ≤ (wr.alloc (.cells #[.slice ai ni ci] 25)).heap.size := by have := HB.out.size; simp; omega
        have hbyt : (k + 1) * 24 ≤ 140737488355328 := by omega
        have hmx : k + 1 ≤ maxLen := by unfold maxLen; omega
        have hnews : ∀ (j : Nat) (u : Value), [Value.slice ai ni ci][j]? = some u → (wr.alloc (.cells #[.slice ai ni ci] 25)).cell? (Addr.add ⟨wr.heap.size, 0, none⟩ j) = some u := by
          intro j u hu
          cases j with
          | zero => simp at hu; subst hu; simp [go_sem]
          | succ j => simp at hu
        obtain ⟨bi, ni2, ci2, hr3, hr4⟩ := ROW.out k hlt
        clear hr1 hr2 hJ
        go_wp2_with (at_builtin; refine wpList_append_own _ rfl _ _ 29 rfl w2.heap.size 25 i0 (.slice none 0 0) 1 24 Try.underlying29 hi hz0 hz1 hz2 rfl (by decide) _ k _ rfl HO'.out ⟨wr.heap.size, 0, none⟩ 1 1 [.slice ai ni ci] rfl rfl hnews (by simp [Value.oneCell']) hmx hbyt hbase ?_)
        intro v' w3 hown hgrow _
        obtain ⟨tp', tc', rfl⟩ := own_form hown
        have HB3 : Hid (Below w2.heap.size w2 w3) := (HB.out.alloc HB.out.size _).grown hgrow hbase (by intro g hg; exact (own_block HO'.out hg).1)
        have HBW3 : Hid (Below w.heap.size w w3) := bvia HB2.out HB3.out
        obtain ⟨d2, hls⟩ := hr4 w3 HBW3.out
        have HO3 : Hid (w3.ownsRow w2.heap.size 25 1 (.slice tp' (k + 1) tc') (k + 1) ((List.range (k + 1)).map fun j => rowV w b off (N - 1 - j))) := by
          show World.ownsRow _ _ _ _ _ _ _
          rw [List.range_succ, List.map_append, List.map_cons, List.map_nil, HJ.out, HR1.out]
          exact hown
        have HL2 : Hid (lgN q (k + 1) = max L ni2) := by show _ = _; simp only [lgN]; rw [HL.out, hls.len]
        have y4 : max (L : Int) ni2 = (max L ni2 : Nat) := by omega
        clear hown hgrow hr3 hr4 hls hnews hbyt hmx hbase
        go_wp2
        go_roundw
        case rel => exact ⟨k + 1, tp', tc', max L ni2, by omega, by go_num, rfl, rfl, HL2, HO3, HB3⟩
        case measure => simp [RowKit.intOf]; omega
      · obtain rfl : k = N := by omega
        have hge : (k : Int) ≤ k := Int.le_refl _
        have hLp : L = pn := by
          have h := lg_end HI.out
          rw [HLN.out, HL.out] at h
          rw [h, HP.out.len]
        subst hLp
        have HTL : Hid (Lss wr tp k tc q.reverse) := by
          refine lss_of_own HO.out (by rw [List.length_reverse, HLN.out]) (by omega) (fun i hi => ?_)
          obtain ⟨ai, ni, ci, g1, g2⟩ := ROW.out (k - 1 - i) (by omega)
          exact ⟨ai, ni, ci, g1, by rw [rev_getD HLN.out hi]; exact (g2 wr HBW.out).2⟩
        have CV2 := Lib.hid (cover_any HTL.out)
        rw [HREV.out] at CV2
        have HPW := Lib.hid (HP.out.below HB.out (Nat.le_refl _))
        clear HO HTL hi hz0 hz1 hz2
        go_wp2_with fail
        refine CV2.out.mono ?_; rintro e w4 ⟨ro, rn, rc, rfl, hR, -, hb4⟩
        have HB4 : Hid (Below wr.heap.size wr w4) := hb4
        have HBW4 : Hid (Below w.heap.size w w4) := bvia HBW.out hb4
        have HP4 := Lib.hid (HPW.out.below hb4 (Nat.le_refl _))
        have CE1 := Lib.hid (eqints_any HP4.out hR)
        simp only [decide_true] at CE1
        clear hR hb4
        go_wp2_with fail
        refine CE1.out.mono ?_; rintro e w5 ⟨rfl, hw5⟩
        have HB5 : Hid (Below w4.heap.size w4 w5) := by obtain ⟨dn, rfl⟩ := hw5; exact below_drewN (Below.refl _ _) dn
        have HBW5 : Hid (Below w.heap.size w w5) := bvia HBW4.out HB5.out
        have HP5 := Lib.hid (HP4.out.below HB5.out (Nat.le_refl _))
        have CM := Lib.hid (may_any HP5.out)
        rw [HI.out.may] at CM
        clear hw5
        have hpb : L ≤ 8 := by have h := (mayE_zero HI.out.may).2.1; rw [HP.out.len] at h; exact h
        go_wp2_with fail
        refine CM.out.mono ?_; rintro e w6 ⟨rfl, hw6⟩
        have hw6' := hw6.symm
        subst hw6'
        go_wp2_with fail
        go_loopw [10] (fun v10 wr => ∃ a : Nat, a ≤ L ∧ v10 = .int .i64 a ∧ ∃ dn, wr = w5.drewN dn) (fun i _ => L - (RowKit.intOf i).toNat)
        case atStart => exact ⟨0, Nat.zero_le _, rfl, 0, rfl⟩
        case round =>
          obtain ⟨a, ha, rfl, dn, rfl⟩ := hrel
          by_cases hal : a < L
          · have hal' : (a : Int) < L := by omega
            go_wp2_with fail
            go_loopw [11, 12] (fun v11 v12 wr => ∃ (i : Nat) (M : Int), i ≤ k ∧ v12 = .int .i64 i ∧ v11 = .int .i64 M ∧ Hid (msN q (L - 1 - a) i = M) ∧ ∃ dm, wr = w5.drewN dm) (fun _ i _ => k - (RowKit.intOf i).toNat)
            case atStart => exact ⟨0, 0, Nat.zero_le _, rfl, rfl, rfl, dn, rfl⟩
            case round =>
              obtain ⟨i, M, hik, rfl, rfl, HM, dm, rfl⟩ := hrel
              by_cases hil : i < k
              · have hil' : (i : Int) < k := by omega
                obtain ⟨ai, ni, ci, g1, g2⟩ := ROW.out i hil
                obtain ⟨d1, hls⟩ := g2 w5 HBW5.out
                have hnl : ni ≤ L := by have h := (HI.out.len _).1 (Nat.le_refl _) _ (mem_getD (i := i) (zss := q) (by rw [HLN.out]; exact hil)); rw [hls.len, HP.out.len] at h; exact h
                have y1 : IntKind.i64.wrap ((L : Int) - ni) = (L - ni : Nat) := by rw [show (L : Int) - ni = (L - ni : Nat) by omega]; exact IntWalk.i64_in _ (by omega)
                have HM2 : Hid (msN q (L - 1 - a) (i + 1) = max M (rv (q.getD i []) (L - 1 - a))) := by show _ = _; simp only [msN]; rw [HM.out]
                by_cases hak : a < L - ni
                · have hak' : (a : Int) < (L - ni : Nat) := by omega
                  have hrv : rv (q.getD i []) (L - 1 - a) = 1 := rv_out (by rw [hls.len]; omega)
                  rw [hrv] at HM2
                  clear hls g2 hrv
                  go_wp2
                  go_roundw
                  case rel => exact ⟨i + 1, max M 1, by omega, by go_num, rfl, HM2, dm, rfl⟩
                  case measure => simp [RowKit.intOf]; omega
                · have hak' : ((L - ni : Nat) : Int) ≤ a := by omega
                  have hrv : rv (q.getD i []) (L - 1 - a) = (q.getD i []).getD (a - (L - ni)) 0 := by
                    unfold rv
                    rw [if_pos (by rw [hls.len]; omega), hls.len, show ni - 1 - (L - 1 - a) = a - (L - ni) by omega]
                  have y2 : IntKind.i64.wrap ((a : Int) - L) = a - L := IntWalk.i64_in _ (by omega)
                  have y3 : IntKind.i64.wrap ((a : Int) - L + ni) = (a - (L - ni) : Nat) := by rw [show (a : Int) - L + ni = (a - (L - ni) : Nat) by omega]; exact IntWalk.i64_in _ (by omega)
                  have y4 : ((a - (L - ni) : Nat) : Int) < ni := by omega
                  have y5 : a - (L - ni) < ni := by omega
                  obtain ⟨b2, o2, rfl, hc2⟩ := hls.at (by omega)
                  have d2 := hc2 _ y5
                  obtain ⟨x, HX⟩ : ∃ x, Hid ((q.getD i []).getD (a - (L - ni)) 0 = x) := ⟨_, rfl⟩
                  rw [HX.out] at d2 hrv
                  rw [hrv] at HM2
                  obtain ⟨J, hJ⟩ : ∃ J, a - (L - ni) = J := ⟨_, rfl⟩
                  rw [hJ] at d2 y3 y4
                  clear hls g2 hrv hc2 hJ y5
                  go_wp2
                  go_quiet (fail)
                  go_wp2
                  go_roundw
                  case rel => exact ⟨i + 1, max M x, by omega, by go_num, rfl, HM2, _, rfl⟩
                  case measure => simp [RowKit.intOf]; omega
              · obtain rfl : i = k := by omega
                have hge : (i : Int) ≤ i := Int.le_refl _
                have hMC : C.getD a 0 = M := by
                  rw [rv_at (by rw [HP.out.len]; exact hal), HP.out.len, ← ms_end HI.out (by rw [HLN.out]; exact hN0), HLN.out]
                  exact HM.out
                obtain ⟨b3, o3, rfl, hc3⟩ := HP5.out.at (by omega)
                have d3 := hc3 a hal
                rw [hMC] at d3
                clear hc3 hMC
                go_wp2
                go_roundw
                case rel => exact ⟨a + 1, by omega, by go_num, dm, rfl⟩
                case measure => simp [RowKit.intOf]; omega
          · obtain rfl : a = L := by omega
            have hge : (a : Int) ≤ a := Int.le_refl _
            obtain ⟨ai, ni, ci, g1, g2⟩ := ROW.out 0 hN0
            have HBD : Hid (Below w5.heap.size w5 (w5.drewN dn)) := below_drewN (Below.refl _ _) dn
            have HBWD : Hid (Below w.heap.size w (w5.drewN dn)) := bvia HBW5.out HBD.out
            obtain ⟨d1, hls⟩ := g2 (w5.drewN dn) HBWD.out
            rw [Nat.add_zero] at d1
            have HPD := Lib.hid (HP5.out.below HBD.out (Nat.le_refl _))
            have CV3 := Lib.hid (cover_any (lss_three HPD.out hls HPD.out))
            rw [cvR_again HI.out (mem_getD (i := 0) (zss := q) (by rw [HLN.out]; exact hN0))] at CV3
            clear hls g2
            go_wp2_with fail
            refine CV3.out.mono ?_; rintro e w7 ⟨zo, zn, zc, rfl, hZ, -, hb7⟩
            have HB7 : Hid (Below w5.heap.size w5 w7) := bvia HBD.out (bvia (bal _ _) hb7)
            have HBW7 : Hid (Below w.heap.size w w7) := bvia HBW5.out HB7.out
            have CE2 := Lib.hid (eqints_any hZ (HP5.out.below HB7.out (Nat.le_refl _)))
            simp only [decide_true] at CE2
            clear hZ hb7
            go_wp2_with fail
            refine CE2.out.mono ?_; rintro e w8 ⟨rfl, hw8⟩
            have HBW8 : Hid (Below w.heap.size w w8) := by obtain ⟨dn2, rfl⟩ := hw8; exact below_drewN HBW7.out dn2
            clear hw8
            go_wp2
            go_ret
            exact RetB.mk rfl HBW8.out
end Go.Proofs.Ytdmlldghelpijaa

/- The book of layer 4 (abacuslaw4): TakeArrays of many arrays. -/
import Derived.Test.YtoippfoeghjdoaaBook4
import Derived.Deep.RegionHeld3
import Derived.Deep.RegionLaw
namespace Go.Proofs.Ytoippfoeghjdoaa
open Go.RowKit Go.Lib
set_option linter.unusedVariables false
set_option linter.unusedSimpArgs false
attribute [local go_sem] alloc_drewN setCell_drewN
section
variable {base : Nat} {w : World} {R : Nat × Nat × Nat → Rw} {o bb p K L : Nat} {mu mu' : Int}
set_option maxRecDepth 100000 in
set_option maxHeartbeats 6400000 in
theorem takeArrays4_any {N lc : Nat} {q : Nat × Nat × Nat} {la : Option Addr} (H : Hold base w R) (B : Bk4 R o bb K mu L) (hp : p ≠ o ∧ o ≠ 8 ∧ p ≠ 8) (hqn : q.1 ≠ o ∧ q.1 ≠ 8 ∧ q.1 ≠ p)
    (hq : R q = ⟨38, 2, la, N, lc, (List.range N).flatMap fun i => [(R (p, 1, i)).v, (R (p, 2, i)).v]⟩)
    (he : ∀ i, i < N → (∃ ao n c xs, n ≤ 4194304 ∧ R (p, 1, i) = ⟨3, 1, ao, n, c, xs⟩) ∧ (∃ ao n c xs, n ≤ 4194304 ∧ R (p, 2, i) = ⟨2, 1, ao, n, c, xs⟩)) (hN : mu + N * 136458528 ≤ 4611686018427387904) (hN2 : N ≤ 1000000) :
    Calls Try.prog 16 #[.pointer (some ⟨bb, 0, none⟩), .slice la N lc] w (fun e w' => e = .returned (.tuple #[]) ∧ TakeP4 base w R o bb p mu N w') := by
  obtain ⟨ao0, c0, l0⟩ := B.l2
  have hob := B.b2.obj
  rw [l0] at hob
  simp only [Rw.v] at hob
  have d0 : w.cell? ⟨bb, 2, none⟩ = some (.slice ao0 L c0) := H.cell hob 2 _ rfl
  have hcap := H.cap hq
  have n8 : ∀ t : Nat × Nat × Nat, t.1 ≠ 8 → t ≠ (8, 0, 0) := fun t ht e => ht (by rw [e])
  have hR0 : Hold base w (updR R (8, 0, 0) ⟨25, 1, none, 0, 0, []⟩) := H.add (8, 0, 0) (r := ⟨25, 1, none, 0, 0, []⟩) (World.ownsRow_nil _ _ _ _) fun s _ g hg => by simp [Rw.v, Value.ownBlock] at hg
  have HT0 : Hid (T4 base w R o bb p K mu L 0 none 0 w) := by
    refine ⟨L, mu, _, Nat.le_refl _, hR0, ?_, updR_eq, fun j _ => updR_ne (n8 _ hp.2.2), fun j => updR_ne (n8 _ hp.2.2), fun t _ _ h => updR_ne (n8 _ h), Below.refl _ _, Int.le_refl _, by omega, fun k h1 h2 => absurd h2 (by omega)⟩
    have e : ∀ a b, updR R (8, 0, 0) ⟨25, 1, none, 0, 0, []⟩ (o, a, b) = R (o, a, b) := fun a b => updR_ne (n8 _ hp.2.1)
    refine ⟨?_, ?_, fun k hk => ?_, B.sl, B.lb⟩
    · rw [e]
      refine ⟨?_, ?_, fun k hk => ?_, B.b2.s0, B.b2.s1, B.b2.kb⟩
      · rw [e, e]; exact B.b2.obj
      · rw [e]; simp only [e]; exact B.b2.l1
      · rw [e]; exact B.b2.e1 k hk
    · rw [e]; simp only [e]; exact B.l2
    · rw [e]; exact B.e2 k hk
  have HQ := Lib.hid hq
  have HE := Lib.hid he
  have HNN := Lib.hid hN
  have HCAP := Lib.hid hcap
  have HP := Lib.hid hp
  have HQN := Lib.hid hqn
  have hmu0 : 0 ≤ mu := by have := B.sl; omega
  have LB := Lib.hid B.lb
  clear H B hob l0 hq he hN hcap hp hqn n8 hR0
  go_enter Try.func16, Try.ntmps16
  go_wp2_with fail
  go_loopw [4, 6, 7, 8] (fun v4 v6 v7 v8 wx => ∃ (i : Nat) (so : Option Addr) (sc : Nat), i ≤ N ∧ v4 = .slice so i sc ∧ v6 = .int .i64 i ∧ Hid (T4 base w R o bb p K mu L i so sc wx)) (fun _ v6 _ _ _ => N - (RowKit.intOf v6).toNat)
  case atStart => exact ⟨0, none, 0, Nat.zero_le _, rfl, rfl, HT0⟩
  case round =>
    clear HT0 d0
    obtain ⟨i, so, sc, hi, rfl, rfl, HT⟩ := hrel
    by_cases hlt : i < N
    · have hlt' : (i : Int) < N := by omega
      obtain ⟨L1, mu1, R1, hL1, h1, b1, hS1, hE2, hE1, hN1, hB1, hm1, hm2, hfr⟩ := HT.out
      have HFR := Lib.hid hfr
      obtain ⟨ao1, c1, l1⟩ := b1.l2
      have hob := b1.b2.obj
      rw [l1] at hob
      simp only [Rw.v] at hob
      have s1 := b1.sl
      obtain ⟨g, rfl⟩ := HCAP.out.2.2.2.2 (by have := HCAP.out.1; omega)
      obtain ⟨⟨ua, un, uc, us, hun, ue⟩, ⟨ea, en, ec, xs, hen, ee⟩⟩ := HE.out i hlt
      have hq1 := (hN1 q HQN.out.1 HQN.out.2.2 HQN.out.2.1).trans HQ.out
      have hqi := (pairs4_at (fun i => (R (p, 1, i)).v) (fun i => (R (p, 2, i)).v) N i hlt)
      simp only [ue, ee, Rw.v] at hqi
      have di0 : wr.cell? ⟨g, i * 2, none⟩ = some (.slice ua un uc) := h1.cell hq1 (i * 2) _ (by simpa only [Rw.v] using hqi.1)
      have di1 : wr.cell? ⟨g, i * 2 + 1, none⟩ = some (.slice ea en ec) := h1.cell hq1 (i * 2 + 1) _ (by simpa only [Rw.v] using hqi.2)
      obtain ⟨i14, hi14, hza14, hzb14, hzc14⟩ := info_parts (P := Try.prog) (e := 25) (z := .slice none 0 0) (size := 1) (bytes := 24) (by kernel_rfl)
      have hmx : i + 1 ≤ maxLen := by unfold maxLen; omega
      have hbyt : (i + 1) * 24 ≤ 140737488355328 := by omega
      have HNa : Hid (Hold base (wr.alloc (.cells #[.slice ua un uc] 25)) R1) := h1.via (abal _ _)
      have HBa : Hid (Below base w (wr.alloc (.cells #[.slice ua un uc] 25))) := hB1.trans ((abal _ _).mono h1.base)
      have hnews : ∀ (q : Nat) (v : Value), [.slice ua un uc][q]? = some v → (wr.alloc (.cells #[.slice ua un uc] 25)).cell? (Addr.add ⟨wr.heap.size, 0, none⟩ q) = some v := by
        intro q v hv
        cases q with
        | zero => simp at hv; subst hv; simp [go_sem]
        | succ q => simp at hv
      have HNW := Lib.hid hnews
      have HS1 := Lib.hid hS1
      have B1 := Lib.hid b1
      have E2 := Lib.hid hE2
      have E1 := Lib.hid hE1
      have N1 := Lib.hid hN1
      have HOB := Lib.hid hob
      have HL1 := Lib.hid l1
      have HQ1 := Lib.hid hq1
      have HQI := Lib.hid hqi
      have UE := Lib.hid ue
      have EE := Lib.hid ee
      have HK1 := Lib.hid hL1
      have HM := Lib.hid (And.intro hm1 hm2)
      clear hnews hS1 b1 hE2 hE1 hN1 hob l1 hq1 hqi ue ee hL1 hm1 hm2 s1 h1 hB1 hfr HT
      go_wp2_with (at_builtin; refine Hold.wpList_app4 HNa.out rfl _ _ 45 rfl (8, 0, 0) 25 i14 (.slice none 0 0) 1 24 Try.underlying45 hi14 hza14 hzb14 hzc14 rfl (by decide) HS1.out rfl ⟨wr.heap.size, 0, none⟩ 1 1 rfl [.slice ua un uc] rfl HNW.out (by simp [Value.oneCell']) hmx hbyt ?_)
      intro b8 d8 w5 hH5 hB5
      obtain ⟨R5, HR5⟩ : ∃ z, Hid (updR R1 (8, 0, 0) ⟨25, 1, b8, i + 1, d8, ((List.range i).map fun k => (R (p, 1, k)).v) ++ [Value.slice ua un uc]⟩ = z) := ⟨_, rfl⟩
      rw [HR5.out] at hH5
      have m8 : ∀ t : Nat × Nat × Nat, t.1 ≠ 8 → R5 t = R1 t := fun t ht => by rw [← HR5.out]; exact updR_ne fun e => ht (by rw [e])
      have M8 := Lib.hid m8
      have S5 : Hid (R5 (8, 0, 0) = ⟨25, 1, b8, i + 1, d8, (List.range (i + 1)).map fun k => (R (p, 1, k)).v⟩) := by
        show _ = _
        rw [← HR5.out, updR_eq, List.range_succ, List.map_append, List.map_singleton, UE.out]; rfl
      have H5 := Lib.hid hH5
      have HB5 := Lib.hid (HBa.out.trans hB5)
      have b5 : Bk4 R5 o bb K mu1 L1 := by
        have e : ∀ a b, R5 (o, a, b) = R1 (o, a, b) := fun a b => m8 _ HP.out.2.1
        refine ⟨?_, ?_, fun k hk => ?_, B1.out.sl, B1.out.lb⟩
        · rw [e]
          refine ⟨?_, ?_, fun k hk => ?_, B1.out.b2.s0, B1.out.b2.s1, B1.out.b2.kb⟩
          · rw [e, e]; exact B1.out.b2.obj
          · rw [e]; simp only [e]; exact B1.out.b2.l1
          · rw [e]; exact B1.out.b2.e1 k hk
        · rw [e]; simp only [e]; exact B1.out.l2
        · rw [e]; exact B1.out.e2 k hk
      have B5 := Lib.hid b5
      have hob5 := (m8 (o, 0, 0) HP.out.2.1).trans HOB.out
      have hq5 := (m8 q HQN.out.2.1).trans HQ1.out
      have di1 : w5.cell? ⟨g, i * 2 + 1, none⟩ = some (.slice ea en ec) := hH5.cell hq5 (i * 2 + 1) _ (by simpa only [Rw.v] using HQI.out.2)
      have ee5 := (m8 (p, 2, i) HP.out.2.2).trans ((E2.out i (Nat.le_refl _)).trans EE.out)
      have hec := hH5.cap ee5
      obtain ⟨V, hV⟩ : ∃ V : Nat, min ec (en + 70000) = V := ⟨_, rfl⟩
      have hV1 : V ≤ 4264304 := by omega
      have hV2 : en ≤ V := by omega
      have CR := Lib.hid (fun wy => room2_any en ec (by omega) wy)
      rw [hV] at CR
      have hnn := HNN.out
      have hiN : (i : Int) * 68229264 + 68229264 ≤ N * 68229264 := by omega
      have hmm := HM.out
      have s1 := B1.out.sl
      obtain ⟨V6, hV6⟩ : ∃ z : Int, 16 * (V : Int) = z := ⟨_, rfl⟩
      have hwV : IntKind.i64.wrap (16 * (V : Int)) = V6 := by rw [hV6]; exact IntWalk.i64_in _ (by omega)
      have CF := Lib.hid (full2_any (hH5.via (adrew1 w5)) hob5 (n := V6) (by omega) (by omega) (by omega))
      obtain ⟨mu2, hmu2⟩ : ∃ z : Int, mu1 + 400 + V6 = z := ⟨_, rfl⟩
      rw [hmu2] at CF
      have HZ : Hid (mu1 + 400 ≤ mu2 ∧ mu2 ≤ mu + (i + 1 : Nat) * 68229264 ∧ mu ≤ mu2 ∧ mu2 ≤ 4611686018427387904) := ⟨by omega, by push_cast; omega, by omega, by omega⟩
      have HV := Lib.hid (And.intro hV1 (And.intro hV2 hen))
      have HQ5 := Lib.hid hq5
      have HOB5 := Lib.hid hob5
      have EE5 := Lib.hid ee5
      have HEC := Lib.hid hec
      have hec1 : (en : Int) ≤ ec := by omega
      clear di0 hH5 hB5 b5 hob5 hq5 ee5 hec hV hnn hiN hmm s1 hmu2 hV6 hV1 hV2 m8
      go_upto_region 6 with fail
      go_region_held3 (fun wx => wx.cell? ⟨g, i * 2 + 1, none⟩ = some (.slice ea en ec)) (go_keep)
        (first
        | (go_at_call 36; (with_reducible refine Calls.mono (CR.out _) ?_); rintro e w6 ⟨rfl, rfl⟩)
        | (go_at_call 35; (with_reducible refine Calls.mono CF.out ?_); rintro e w6 ⟨rfl, h6, hB6⟩; clear di1; have di1 := h6.cell ((updR_ne (fun e => HQN.out.1 (by rw [e]))).trans HQ5.out) (i * 2 + 1) _ (by simpa only [Rw.v] using HQI.out.2)))
      have B2 := Lib.hid (B5.out.much (v1 := .slice (R1 (o, 1, 0)).ao (R1 (o, 1, 0)).n (R1 (o, 1, 0)).c) (v2 := .slice ao1 L1 c1) (by rw [M8.out _ HP.out.2.1]; rfl) (by rw [M8.out _ HP.out.2.1, HL1.out]; rfl) (mu' := mu2) (by have := HZ.out.1; omega) HZ.out.2.2.2)
      obtain ⟨R2, HR2⟩ : ∃ z, Hid (updR R5 (o, 0, 0) ⟨50, 3, some ⟨bb, 0, none⟩, 1, 1, [.slice (R1 (o, 1, 0)).ao (R1 (o, 1, 0)).n (R1 (o, 1, 0)).c, .int .i64 mu2, .slice ao1 L1 c1]⟩ = z) := ⟨_, rfl⟩
      rw [HR2.out] at h6 B2
      have r20 : Hid (R2 (o, 0, 0) = ⟨50, 3, some ⟨bb, 0, none⟩, 1, 1, [.slice (R1 (o, 1, 0)).ao (R1 (o, 1, 0)).n (R1 (o, 1, 0)).c, .int .i64 mu2, .slice ao1 L1 c1]⟩) := by show _ = _; rw [← HR2.out]; exact updR_eq
      have r2N : Hid (∀ t, t ≠ (o, 0, 0) → R2 t = R5 t) := fun t ht => by rw [← HR2.out]; exact updR_ne ht
      have HB6 : Hid (Below base w w6) := HB5.out.trans (((adrew1 _).mono H5.out.base).trans hB6)
      have H6 := Lib.hid h6
      have po : Hid (∀ a j, ((p, a, j) : Nat × Nat × Nat) ≠ (o, 0, 0)) := fun a j e => HP.out.1 (congrArg Prod.fst e)
      have qo : Hid (q ≠ (o, 0, 0)) := fun e => HQN.out.1 (by rw [e])
      have o8 : Hid (((8, 0, 0) : Nat × Nat × Nat) ≠ (o, 0, 0)) := fun e => HP.out.2.1 (congrArg Prod.fst e).symm
      have HQ2 := Lib.hid ((r2N.out _ qo.out).trans HQ5.out)
      have EE2 := Lib.hid ((r2N.out _ (po.out 2 i)).trans EE5.out)
      clear h6 hB6 CF CR
      by_cases hf : 33554432 < mu2
      · have hdd : decide (33554432 < mu2) = true := by simpa using hf
        try rw [hdd]
        have HF : Hid (T4 base w R o bb p K mu L (i + 1) b8 d8 w6) := ⟨L1, mu2, R2, HK1.out, H6.out, B2.out, (r2N.out _ o8.out).trans S5.out, fun j hj => (r2N.out _ (po.out 2 j)).trans ((M8.out _ HP.out.2.2).trans (E2.out j (by omega))), fun j => (r2N.out _ (po.out 1 j)).trans ((M8.out _ HP.out.2.2).trans (E1.out j)),
          fun t h1 h2 h3 => (r2N.out t (fun e => h1 (by rw [e]))).trans ((M8.out t h3).trans (N1.out t h1 h2 h3)), HB6.out, HZ.out.2.2.1, HZ.out.2.1, fun k h1 h2 => by rw [r2N.out _ (by simp), M8.out _ HP.out.2.1]; exact HFR.out k h1 h2⟩
        clear di1
        go_wp2
        go_roundw
        case rel => exact ⟨i + 1, b8, d8, by omega, rfl, by go_num, HF⟩
        case measure => simp [RowKit.intOf]; omega
      · have hdd : decide (33554432 < mu2) = false := by simpa using hf
        try rw [hdd]
        have hmu2 : mu2 ≤ 33554432 := by omega
        have HMU := Lib.hid hmu2
        have s1 := B5.out.sl
        have hz1 := HZ.out.1
        have hk1 : L1 + 1 ≤ 83886 := by omega
        have HSL : Hid (((L1 + 1 : Nat) : Int) * 400 ≤ mu2) := by show _ ≤ _; push_cast; omega
        obtain ⟨m, HMK⟩ : ∃ m, Hid (mkB L1 = m) := ⟨_, rfl⟩
        have hw1 : IntKind.i64.wrap (-1 - (L1 : Int)) = m := by rw [← HMK.out]; exact IntWalk.i64_in _ (by omega)
        have d0 := H6.out.cell r20.out 2 _ rfl
        clear hmu2 s1 hz1 hf
        go_wp2_with fail
        go_loopw [8] (fun v8 wx => ∃ j : Nat, j ≤ en ∧ v8 = .int .i64 j ∧ Hid (Hold base wx (updR R2 (p, 2, i) ⟨2, 1, ea, en, ec, List.replicate j (.int .i64 m) ++ xs.drop j⟩)) ∧ Hid (Below base w wx)) (fun v8 _ => en - (RowKit.intOf v8).toNat)
        case atStart => exact ⟨0, Nat.zero_le _, rfl, by (show Hold _ _ _; simp only [List.replicate_zero, List.nil_append, List.drop_zero]; rw [updS_self EE2.out]; exact H6.out), HB6⟩
        case round =>
          obtain ⟨j, hj, rfl, HJ, HBJ⟩ := hrel
          clear d0 di1
          have rj : (updR R2 (p, 2, i) ⟨2, 1, ea, en, ec, List.replicate j (.int .i64 m) ++ xs.drop j⟩) q = _ := (updR_ne (fun e => HQN.out.2.2 (by rw [e]))).trans HQ2.out
          have di1 : wr.cell? ⟨g, i * 2 + 1, none⟩ = some (.slice ea en ec) := HJ.out.cell rj (i * 2 + 1) _ (by simpa only [Rw.v] using HQI.out.2)
          have hxl := HEC.out.2.2.1
          rw [Nat.mul_one] at hxl
          by_cases hlj : j < en
          · have hlj' : (j : Int) < en := by omega
            obtain ⟨eg, rfl⟩ := HEC.out.2.2.2.2 (by have := HEC.out.1; omega)
            obtain ⟨x, hx⟩ : ∃ x, xs[j]? = some x := ⟨_, List.getElem?_eq_getElem (by omega)⟩
            have q1 := HJ.out.cell updR_eq j x (by rw [List.getElem?_append_right (by simp)]; simpa using hx)
            have q2 := HJ.out.frozen updR_eq j
            have HJ2 := HJ.out.put updR_eq j (.int .i64 m)
            rw [updS_two, rep_set (by omega)] at HJ2
            have HJ2 := Lib.hid HJ2
            have HBJ2 := Lib.hid (HBJ.out.trans (HJ.out.putB updR_eq j (.int .i64 m)))
            clear rj hxl hx
            go_wp2
            go_roundw
            case rel => first | exact ⟨j + 1, by omega, by go_num, HJ2, HBJ2⟩ | ((repeat apply Exists.intro); exact ⟨⟨j + 1, by omega, by go_num, HJ2, HBJ2⟩, rfl⟩)
            case measure => simp [RowKit.intOf]; omega
          · have hge : (en : Int) ≤ j := by omega
            obtain rfl : j = en := by omega
            rw [List.drop_of_length_le (by omega), List.append_nil] at HJ
            have hm3 := HJ.out.move (p, 2, i) (o, 4, L1) (by intro e; exact HP.out.1 (congrArg Prod.fst e).symm)
            rw [updR_eq, updS_two] at hm3
            obtain ⟨R3, HR3⟩ : ∃ z, Hid (updR (updR R2 (p, 2, i) Rw.nil) (o, 4, L1) ⟨2, 1, ea, j, ec, List.replicate j (.int .i64 m)⟩ = z) := ⟨_, rfl⟩
            rw [HR3.out] at hm3
            have H3 := Lib.hid hm3
            have r33 : Hid (R3 (o, 4, L1) = ⟨2, 1, ea, j, ec, List.replicate j (.int .i64 m)⟩) := by show _ = _; rw [← HR3.out]; exact updR_eq
            have r3N : Hid (∀ t, t ≠ (p, 2, i) → t ≠ (o, 4, L1) → R3 t = R2 t) := fun t h1 h2 => by rw [← HR3.out, updR_ne h2, updR_ne h1]
            have op : Hid (∀ a k, ((o, a, k) : Nat × Nat × Nat) ≠ (p, 2, i)) := fun a k e => HP.out.1 (congrArg Prod.fst e).symm
            have r30 : Hid (R3 (o, 0, 0) = ⟨50, 3, some ⟨bb, 0, none⟩, 1, 1, [.slice (R1 (o, 1, 0)).ao (R1 (o, 1, 0)).n (R1 (o, 1, 0)).c, .int .i64 mu2, .slice ao1 L1 c1]⟩) := (r3N.out _ (op.out 0 0) (by simp)).trans r20.out
            have r31 : Hid (R3 (o, 2, 0) = ⟨28, 1, ao1, L1, c1, (List.range L1).map fun k => (R1 (o, 4, k)).v⟩) := ((r3N.out _ (op.out 2 0) (by simp)).trans (r2N.out _ (by simp))).trans ((M8.out _ HP.out.2.1).trans HL1.out)
            have r3q : Hid (R3 q = ⟨38, 2, some ⟨g, 0, none⟩, N, lc, (List.range N).flatMap fun i => [(R (p, 1, i)).v, (R (p, 2, i)).v]⟩) := (r3N.out _ (fun e => HQN.out.2.2 (by rw [e])) (fun e => HQN.out.1 (by rw [e]))).trans HQ2.out
            clear hxl rj hm3 di1
            obtain ⟨i15, hi15, hza15, hzb15, hzc15⟩ := info_parts (P := Try.prog) (e := 28) (z := .slice none 0 0) (size := 1) (bytes := 24) (by kernel_rfl)
            have hmx15 : L1 + 1 ≤ maxLen := by unfold maxLen; omega
            have hbyt15 : (L1 + 1) * 24 ≤ 140737488355328 := by omega
            have HNb : Hid (Hold base (wr.alloc (.cells #[.slice ea j ec] 28)).drew R3) := (H3.out.via (abal _ _)).via (adrew1 _)
            have hnews : ∀ (q : Nat) (v : Value), [.slice ea j ec][q]? = some v → (wr.alloc (.cells #[.slice ea j ec] 28)).drew.cell? (Addr.add ⟨wr.heap.size, 0, none⟩ q) = some v := by
              intro q v hv
              cases q with
              | zero => simp at hv; subst hv; simp [go_sem]
              | succ q => simp at hv
            have HNX := Lib.hid hnews
            have k0 := H3.out.cell r30.out 2 _ rfl
            have k1 := H3.out.frozen r30.out 2
            have k2 : wr.cell? ⟨g, i * 2 + 1, none⟩ = some (.slice ea j ec) := H3.out.cell r3q.out (i * 2 + 1) _ (by simpa only [Rw.v] using HQI.out.2)
            have k3 : (wr.alloc (.cells #[.slice ea j ec] 28)).cell? ⟨bb, 2, none⟩ = some (.slice ao1 L1 c1) := (H3.out.via (abal _ _)).cell r30.out 2 _ rfl
            have k4 : (wr.alloc (.cells #[.slice ea j ec] 28)).cell? ⟨g, i * 2 + 1, none⟩ = some (.slice ea j ec) := (H3.out.via (abal _ _)).cell r3q.out (i * 2 + 1) _ (by simpa only [Rw.v] using HQI.out.2)
            clear hnews
            go_upto_region 12 with fail
            go_region_law (refine Hold.step_append HNb.out rfl _ _ 48 (by rfl) (o, 2, 0) 28 i15 (.slice none 0 0) 1 24 Try.underlying48 hi15 hza15 hzb15 hzc15 rfl (by decide) r31.out (by rfl) ⟨wr.heap.size, 0, none⟩ 1 1 (by rfl) [.slice ea j ec] rfl HNX.out (by simp [Value.oneCell']) hmx15 hbyt15 ?_; intro b9 d9 w9 hH9 hB9; have q1 := hH9.cell ((updR_ne (by simp)).trans r30.out) 2 _ rfl; have q2 := hH9.frozen ((updR_ne (by simp)).trans r30.out) 2)
            all_goals
              have HX := hH9.put ((updR_ne (by simp)).trans r30.out) 2 (.slice b9 (L1 + 1) d9)
              simp only [List.set_cons_zero, List.set_cons_succ] at HX
              have HF : Hid (T4 base w R o bb p K mu L (i + 1) b8 d8 (w9.setCell ⟨bb, 2, none⟩ (.slice b9 (L1 + 1) d9))) := by
                have rN : ∀ t, t ≠ (o, 0, 0) → t ≠ (o, 2, 0) → updR (updR R3 (o, 2, 0) ⟨28, 1, b9, L1 + 1, d9, ((List.range L1).map fun k => (R1 (o, 4, k)).v) ++ [.slice ea j ec]⟩) (o, 0, 0) ⟨50, 3, some ⟨bb, 0, none⟩, 1, 1, [.slice (R1 (o, 1, 0)).ao (R1 (o, 1, 0)).n (R1 (o, 1, 0)).c, .int .i64 mu2, .slice b9 (L1 + 1) d9]⟩ t = R3 t := fun t h0 h1 => by rw [updR_ne h0, updR_ne h1]
                have qq : ∀ a k, (a ≠ 0 ∨ k ≠ 0) → (a ≠ 2 ∨ k ≠ 0) → (a ≠ 4 ∨ k ≠ L1) → updR (updR R3 (o, 2, 0) ⟨28, 1, b9, L1 + 1, d9, ((List.range L1).map fun k => (R1 (o, 4, k)).v) ++ [.slice ea j ec]⟩) (o, 0, 0) ⟨50, 3, some ⟨bb, 0, none⟩, 1, 1, [.slice (R1 (o, 1, 0)).ao (R1 (o, 1, 0)).n (R1 (o, 1, 0)).c, .int .i64 mu2, .slice b9 (L1 + 1) d9]⟩ (o, a, k) = R1 (o, a, k) := fun a k h0 h2 h4 => by
                  rw [rN _ (by simp; omega) (by simp; omega), r3N.out _ (op.out a k) (by simp; omega), r2N.out _ (by simp; omega)]
                  exact M8.out _ HP.out.2.1
                have ro : ∀ a k, (a ≠ 0 ∨ k ≠ 0) → R2 (o, a, k) = R1 (o, a, k) := fun a k h => (r2N.out _ (by simp; omega)).trans (M8.out _ HP.out.2.1)
                refine ⟨L1 + 1, mu2, _, by have := HK1.out; omega, HX, ?_, ?_, fun jj hj => ?_, fun jj => ?_, fun t t0 t1 t3 => ?_, ((HBJ.out.trans (((abal _ _).mono H3.out.base).drew)).trans hB9).trans (hH9.putB ((updR_ne (by simp)).trans r30.out) 2 _), HZ.out.2.2.1, HZ.out.2.1, fun k h1 h2 => ?_⟩
                · refine B2.out.more HSL.out HMU.out (b1 := b9) (d1 := d9) (sa := ea) (sn := j) (sc := ec) ?_ ?_ ?_ (by have := HV.out; omega) (fun k hk => ?_) (fun k => ?_) ?_
                  · rw [updR_eq, ro 1 0 (by omega)]; rfl
                  · rw [updR_ne (by simp), updR_eq]
                    congr 2
                    exact List.map_congr_left fun k _ => by rw [ro 4 k (by omega)]
                  · rw [rN _ (by simp) (by simp), r33.out, HMK.out]
                  · rw [qq 4 k (by omega) (by omega) (by omega), ro 4 k (by omega)]
                  · rw [qq 3 k (by omega) (by omega) (by omega), ro 3 k (by omega)]
                  · rw [qq 1 0 (by omega) (by omega) (by omega), ro 1 0 (by omega)]
                · rw [rN _ o8.out (fun e => HP.out.2.1 (congrArg Prod.fst e).symm), r3N.out _ (fun e => HP.out.2.2 (congrArg Prod.fst e).symm) (fun e => HP.out.2.1 (congrArg Prod.fst e).symm), r2N.out _ o8.out]
                  exact S5.out
                · rw [rN _ (po.out 2 jj) (fun e => HP.out.1 (congrArg Prod.fst e)), r3N.out _ (by simp; omega) (fun e => HP.out.1 (congrArg Prod.fst e)), r2N.out _ (po.out 2 jj)]
                  exact (M8.out _ HP.out.2.2).trans (E2.out jj (by omega))
                · rw [rN _ (po.out 1 jj) (fun e => HP.out.1 (congrArg Prod.fst e)), r3N.out _ (by simp) (fun e => HP.out.1 (congrArg Prod.fst e)), r2N.out _ (po.out 1 jj)]
                  exact (M8.out _ HP.out.2.2).trans (E1.out jj)
                · rw [rN _ (fun e => t0 (by rw [e])) (fun e => t0 (by rw [e])), r3N.out _ (fun e => t1 (by rw [e])) (fun e => t0 (by rw [e])), r2N.out _ (fun e => t0 (by rw [e]))]
                  exact (M8.out t t3).trans (N1.out t t0 t1 t3)
                · by_cases e : k = L1
                  · subst e
                    rw [rN _ (by simp) (by simp), r33.out]; exact HV.out.2.2
                  · rw [qq 4 k (by omega) (by omega) (by omega)]; exact HFR.out k h1 (by omega)
              clear hH9 hB9 HX k0 k1 k2 k3 k4 q1 q2
              go_wp2
              go_roundw
              case rel => first | exact ⟨i + 1, b8, d8, by omega, rfl, by go_num, HF⟩ | ((repeat apply Exists.intro); exact ⟨⟨i + 1, b8, d8, by omega, rfl, by go_num, HF⟩, rfl⟩)
              case measure => simp [RowKit.intOf]; omega
    · have hge : (N : Int) ≤ i := by omega
      obtain rfl : i = N := by omega
      obtain ⟨L1, mu1, R1, hL1, h1, b1, hS1, hE2, hE1, hN1, hB1, hm1, hm2, hfr⟩ := HT.out
      obtain ⟨W1, hW1⟩ : ∃ z : World, z = wr := ⟨_, rfl⟩
      subst hW1
      have s1 := b1.sl
      have lb1 := b1.lb
      have CT := Lib.hid (take2_any (N := i) (lc := sc) (q := (8, 0, 0)) (la := so) (p := p) h1 b1.b2 HP.out.1 (fun e => HP.out.2.1 (congrArg Prod.fst e).symm) (fun e => HP.out.2.1 (congrArg Prod.fst e).symm) (fun k e => HP.out.2.1 (congrArg Prod.fst e).symm) (fun j e => HP.out.2.2 (congrArg Prod.fst e).symm)
        (by rw [hS1]; congr 1; exact List.map_congr_left fun k _ => by rw [hE1]) (fun k hk => by rw [hE1]; exact (HE.out k hk).1) (by have := HNN.out; omega))
      have N1 := Lib.hid hN1
      have B1 := Lib.hid b1
      have HFR := Lib.hid hfr
      have HK1 := Lib.hid hL1
      have HM12 := Lib.hid (And.intro hm1 hm2)
      have HB1 := Lib.hid hB1
      have hK1' : (L : Int) ≤ L1 := by omega
      clear hS1 hE2 hE1 hN1 b1 hfr hL1 hm1 hm2 hB1 h1 HT
      go_wp2_with fail
      refine CT.out.mono ?_; rintro e w2 ⟨rfl, K2, mu2, R2, hK2, h2, b2, hN2', hB2, hm3, hm4⟩
      have no2 : ∀ a k, (a ≠ 0 ∨ k ≠ 0) → (a ≠ 1 ∨ k ≠ 0) → a ≠ 3 → R2 (o, a, k) = R1 (o, a, k) := fun a k q0 q1 q3 => hN2' _ (by simp; omega) (by simp; omega) (fun k' => by simp; omega) (fun j e => HP.out.1 (congrArg Prod.fst e).symm)
      have B2 : Hid (Bk4 R2 o bb K2 mu2 L1) := by
        refine ⟨by rw [no2 2 0 (by omega) (by omega) (by omega)]; exact b2, ?_, fun k hk => ?_, by have := B1.out.sl; omega, B1.out.lb⟩
        · rw [no2 2 0 (by omega) (by omega) (by omega)]
          obtain ⟨ao, c, e⟩ := B1.out.l2
          refine ⟨ao, c, ?_⟩
          rw [e]
          congr 1
          exact List.map_congr_left fun k _ => by rw [no2 4 k (by omega) (by omega) (by omega)]
        · rw [no2 4 k (by omega) (by omega) (by omega)]; exact B1.out.e2 k hk
      have FR2 : Hid (∀ k, L ≤ k → k < L1 → (R2 (o, 4, k)).n ≤ 4194304) := fun k q1 q2 => by rw [no2 4 k (by omega) (by omega) (by omega)]; exact HFR.out k q1 q2
      have N2 : Hid (∀ t, t.1 ≠ o → t.1 ≠ p → t.1 ≠ 8 → R2 t = R t) := fun t t0 t1 t3 => (hN2' t (fun e => t0 (by rw [e])) (fun e => t0 (by rw [e])) (fun k e => t0 (by rw [e])) (fun j e => t1 (by rw [e]))).trans (N1.out t t0 t1 t3)
      have HB2 := Lib.hid (HB1.out.trans hB2)
      have HM34 : Hid (mu ≤ mu2 ∧ mu2 ≤ mu + i * 136458528) := by
        have := HM12.out
        exact ⟨by omega, by omega⟩
      have HT3 : Hid (∃ R3 : Nat × Nat × Nat → Rw, Hold base w2 R3 ∧ Bk4 R3 o bb K2 mu2 L1 ∧ (∀ t, t.1 ≠ o → R3 t = R2 t) ∧ Below base w w2 ∧ (∀ j, L ≤ j → R3 (o, 4, j) = R2 (o, 4, j))) := ⟨R2, h2, B2.out, fun _ _ => rfl, HB2.out, fun _ _ => rfl⟩
      clear h2 b2 hN2' hB2 hm3 hm4 hK2 no2 CT
      go_wp2_with fail
      go_loopw [9, 10, 11] (fun v9 v10 v11 wx => ∃ k : Nat, L ≤ k ∧ k ≤ L1 ∧ v9 = .int .i64 k ∧ Hid (∃ R3 : Nat × Nat × Nat → Rw, Hold base wx R3 ∧ Bk4 R3 o bb K2 mu2 L1 ∧ (∀ t, t.1 ≠ o → R3 t = R2 t) ∧ Below base w wx ∧ (∀ j, k ≤ j → R3 (o, 4, j) = R2 (o, 4, j)))) (fun v9 _ _ _ => L1 - (RowKit.intOf v9).toNat)
      case atStart => exact ⟨L, Nat.le_refl _, HK1.out, rfl, HT3⟩
      case round =>
        clear HT3
        obtain ⟨k, hkK, hk, rfl, HT⟩ := hrel
        obtain ⟨R3, h3, b3, hN3, hB3, hF3⟩ := HT.out
        obtain ⟨ao1, c1, l1⟩ := b3.l2
        have hob := b3.b2.obj
        rw [l1] at hob
        simp only [Rw.v] at hob
        have d0 : wr.cell? ⟨bb, 2, none⟩ = some (.slice ao1 L1 c1) := h3.cell hob 2 _ rfl
        by_cases hlk : k < L1
        · have hlk' : (k : Int) < L1 := by omega
          obtain ⟨g1, rfl⟩ := (h3.cap l1).2.2.2.2 (by have := (h3.cap l1).1; omega)
          obtain ⟨ea, en, ec, hen, ee⟩ := b3.e2 k hlk
          have hqi : ((List.range L1).map fun k => (R3 (o, 4, k)).v)[k]? = some (.slice ea en ec) := by rw [List.getElem?_map, List.getElem?_range hlk]; simp only [Option.map_some, ee, Rw.v]
          have r1 := h3.cell l1 k _ hqi
          have hec := h3.cap ee
          obtain ⟨V, hV⟩ : ∃ V : Nat, min ec (en + 70000) = V := ⟨_, rfl⟩
          have hen4 : en ≤ 4194304 := by
            have h := FR2.out k hkK hlk
            rw [← hF3 k (Nat.le_refl _), ee] at h
            exact h
          have hV1 : V ≤ 4264304 := by omega
          have hV2 : en ≤ V := by omega
          have hV3 : V ≤ ec := by omega
          have CR := Lib.hid (fun wy => room2_any en ec (by omega) wy)
          rw [hV] at CR
          obtain ⟨m, HM⟩ : ∃ m, Hid (mkB k = m) := ⟨_, rfl⟩
          have hw1 : IntKind.i64.wrap (-1 - (k : Int)) = m := by rw [← HM.out]; exact IntWalk.i64_in _ (by omega)
          rw [HM.out] at ee
          have H2 := Lib.hid h3
          have B3 := Lib.hid b3
          have N3 := Lib.hid hN3
          have HB3 := Lib.hid hB3
          have F3 := Lib.hid hF3
          have L1' := Lib.hid l1
          have HOB := Lib.hid hob
          have EE := Lib.hid ee
          have HQI := Lib.hid hqi
          clear h3 b3 hN3 hB3 hF3 l1 hob ee hqi hec hV HT
          go_wp2_with fail
          refine (CR.out _).mono ?_; rintro e w5 ⟨rfl, hw5⟩
          have hw5' := hw5.symm
          subst hw5'
          clear d0 r1
          go_wp2_with fail
          go_loopw [10] (fun v wx => ∃ i : Nat, v = .slice ea i ec ∧ en ≤ i ∧ i ≤ V ∧ Hid (Hold base wx (updR R3 (o, 4, k) ⟨2, 1, ea, i, ec, List.replicate i (.int .i64 m)⟩)) ∧ Hid (Below base w wx)) (fun v _ => V - lenX v)
          case atStart => exact ⟨en, rfl, Nat.le_refl _, hV2, by (show Hold _ _ _; rw [updS_self EE.out]; exact H2.out), HB3⟩
          case round =>
            obtain ⟨ii, rfl, hi1, hi2, HI, HBI⟩ := hrel
            by_cases hli : ii < V
            · have hli' : (ii : Int) < V := by omega
              obtain ⟨gg, hg⟩ := (HI.out.cap updR_eq).2.2.2.2 (by omega)
              subst hg
              obtain ⟨i0, hi0, hz0, hz1, hz2⟩ := info_parts (P := Try.prog) (e := 2) (z := .int .i64 0) (size := 1) (bytes := 8) (by kernel_rfl)
              have HNa : Hid (Hold base (wr.alloc (.cells #[.int .i64 m] 2)) (updR R3 (o, 4, k) ⟨2, 1, some ⟨gg, 0, none⟩, ii, ec, List.replicate ii (.int .i64 m)⟩)) := HI.out.via (abal _ _)
              have hnew : (wr.alloc (.cells #[.int .i64 m] 2)).cell? ⟨wr.heap.size, 0, none⟩ = some (.int .i64 m) := by simp [go_sem]
              have HNW := Lib.hid hnew
              have hroom : ii + 1 ≤ ec := by omega
              have HBB : Hid (Below base w (wr.alloc (.cells #[.int .i64 m] 2))) := HBI.out.trans ((abal _ _).mono HI.out.base)
              clear hnew
              go_wp2_with (at_builtin; refine Hold.wpList_room HNa.out rfl _ _ 28 rfl (o, 4, k) 2 i0 Try.underlying28 hi0 hz1 updR_eq hroom rfl ⟨wr.heap.size, 0, none⟩ 1 rfl (.int .i64 m) HNW.out rfl rfl ?_)
              intro w9 hH9 hB9
              rw [updS_two, ← List.replicate_succ'] at hH9
              have HH9 := Lib.hid hH9
              have HB9 := Lib.hid (HBB.out.trans hB9)
              clear hH9 hB9
              go_wp2
              go_roundw
              case rel => first | exact ⟨ii + 1, rfl, by omega, by omega, HH9, HB9⟩ | ((repeat apply Exists.intro); exact ⟨⟨ii + 1, rfl, by omega, by omega, HH9, HB9⟩, rfl⟩)
              case measure => simp [lenX]; omega
            · have hge : (V : Int) ≤ ii := by omega
              obtain rfl : V = ii := by omega
              have rg1 := (updR_ne (R := R3) (r := ⟨2, 1, ea, V, ec, List.replicate V (.int .i64 m)⟩) (show (o, 2, 0) ≠ (o, 4, k) by simp)).trans L1'.out
              have rg0 := (updR_ne (R := R3) (r := ⟨2, 1, ea, V, ec, List.replicate V (.int .i64 m)⟩) (show (o, 0, 0) ≠ (o, 4, k) by simp)).trans HOB.out
              have q0 := HI.out.cell rg0 2 _ rfl
              have q1 := HI.out.cell rg1 k _ HQI.out
              have q2 := HI.out.frozen rg1 k
              have hPp := HI.out.put rg1 k (.slice ea V ec)
              have HF : Hid (∃ R4 : Nat × Nat × Nat → Rw, Hold base (wr.setCell ⟨g1, k, none⟩ (.slice ea V ec)) R4 ∧ Bk4 R4 o bb K2 mu2 L1 ∧ (∀ t, t.1 ≠ o → R4 t = R2 t) ∧ Below base w (wr.setCell ⟨g1, k, none⟩ (.slice ea V ec)) ∧ (∀ j, k + 1 ≤ j → R4 (o, 4, j) = R2 (o, 4, j))) := by
                refine ⟨_, hPp, ?_, fun t h1 => ?_, HBI.out.trans (HI.out.putB rg1 k _), fun j hj => ?_⟩
                · refine B3.out.grown hlk L1'.out (bo1 := ea) (n1 := V) (c1 := ec) ?_ updR_eq ?_ (by omega) (fun j hj => ?_) (fun j => ?_) ?_
                  · rw [updR_ne (by simp), updR_ne (by simp)]
                  · rw [updR_ne (by simp), updR_eq, HM.out]
                  · rw [updR_ne (by simp), updR_ne (by simpa using hj)]
                  · rw [updR_ne (by simp), updR_ne (by simp)]
                  · rw [updR_ne (by simp), updR_ne (by simp)]
                · rw [updR_ne (fun e => h1 (by rw [e])), updR_ne (fun e => h1 (by rw [e]))]; exact N3.out t h1
                · rw [updR_ne (by simp), updR_ne (by simp; omega)]; exact F3.out j (by omega)
              clear hPp rg1 rg0
              go_wp2
              go_roundw
              case rel => first | exact ⟨k + 1, by omega, by omega, by go_num, HF⟩ | ((repeat apply Exists.intro); exact ⟨⟨k + 1, by omega, by omega, by go_num, HF⟩, rfl⟩)
              case measure => simp [RowKit.intOf]; omega
        · have hgk : (L1 : Int) ≤ k := by omega
          have HF : Hid (TakeP4 base w R o bb p mu i wr) := ⟨K2, L1, mu2, R3, h3, b3, fun t t0 t1 t3 => (hN3 t t0).trans (N2.out t t0 t1 t3), hB3, HM34.out.1, HM34.out.2⟩
          clear h3 b3 hN3 hB3 hF3 l1 hob
          go_wp2
          go_end0
          exact ⟨rfl, HF.out⟩
end
end Go.Proofs.Ytoippfoeghjdoaa

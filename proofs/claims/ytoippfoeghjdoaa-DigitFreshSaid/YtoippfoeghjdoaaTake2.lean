/- The book of layer 2 (abacuslaw2): Take of many lists. -/
import Derived.Test.YtoippfoeghjdoaaBook2
namespace Go.Proofs.Ytoippfoeghjdoaa
open Go.RowKit Go.Lib
set_option linter.unusedVariables false
set_option linter.unusedSimpArgs false
attribute [local go_sem] alloc_drewN setCell_drewN
section
variable {base : Nat} {w : World} {R : Nat × Nat × Nat → Rw} {o bb sz0 p : Nat} {E0 : TypeId} {tl : List Value}
theorem rep_set {xs : List Value} {m : Value} {j : Nat} (h : j < xs.length) : (List.replicate j m ++ xs.drop j).set j m = List.replicate (j + 1) m ++ xs.drop (j + 1) := by
  rw [List.set_append_right _ _ (by simp)]
  simp only [List.length_replicate, Nat.sub_self]
  rw [List.drop_eq_getElem_cons h, List.set_cons_zero, List.replicate_succ', List.append_assoc]
  rfl
def lenX : Value → Nat
  | .slice _ n _ => n
  | _ => 0
/-- The first i lists are looked at. -/
def T1 (base : Nat) (w : World) (R : Nat × Nat × Nat → Rw) (o bb sz0 p : Nat) (E0 : TypeId) (tl : List Value) (K : Nat) (mu : Int) (i : Nat) (wx : World) : Prop :=
  ∃ (K' : Nat) (mu' : Int) (R' : Nat × Nat × Nat → Rw), K ≤ K' ∧ Hold base wx R' ∧ Bk2 R' (o, 0, 0) o E0 sz0 bb tl K' mu' ∧ (∀ j, i ≤ j → R' (p, 1, j) = R (p, 1, j)) ∧
    (∀ t, t ≠ (o, 0, 0) → t ≠ (o, 1, 0) → (∀ k, t ≠ (o, 3, k)) → (∀ j, t ≠ (p, 1, j)) → R' t = R t) ∧ Below base w wx ∧ mu ≤ mu' ∧ mu' ≤ mu + i * 68229264 ∧ (∀ k, K ≤ k → k < K' → (R' (o, 3, k)).n ≤ 4194304)
/-- Behind Take. -/
def TakeP2 (base : Nat) (w : World) (R : Nat × Nat × Nat → Rw) (o bb sz0 p : Nat) (E0 : TypeId) (tl : List Value) (K : Nat) (mu : Int) (N : Nat) (wx : World) : Prop :=
  ∃ (K' : Nat) (mu' : Int) (R' : Nat × Nat × Nat → Rw), K ≤ K' ∧ Hold base wx R' ∧ Bk2 R' (o, 0, 0) o E0 sz0 bb tl K' mu' ∧
    (∀ t, t ≠ (o, 0, 0) → t ≠ (o, 1, 0) → (∀ k, t ≠ (o, 3, k)) → (∀ j, t ≠ (p, 1, j)) → R' t = R t) ∧ Below base w wx ∧ mu ≤ mu' ∧ mu' ≤ mu + N * 68229264
/-- A book that has looked at more. -/
theorem Bk2.much {K : Nat} {mu mu' : Int} (B : Bk2 R (o, 0, 0) o E0 sz0 bb tl K mu) {v1 : Value} (hv : (R (o, 1, 0)).v = v1) (h : mu ≤ mu') (h2 : mu' ≤ 4611686018427387904) : Bk2 (updR R (o, 0, 0) ⟨E0, sz0, some ⟨bb, 0, none⟩, 1, 1, v1 :: .int .i64 mu' :: tl⟩) (o, 0, 0) o E0 sz0 bb tl K mu' := by
  have s0 := B.s0
  obtain ⟨ao, c, l1⟩ := B.l1
  refine ⟨by rw [updR_eq, updR_ne (by simp), hv], ⟨ao, c, ?_⟩, fun k hk => ?_, by omega, h2, B.kb⟩
  · rw [updR_ne (by simp), l1]
    congr 1
    exact List.map_congr_left fun k _ => by rw [updR_ne (by simp)]
  · rw [updR_ne (by simp)]; exact B.e1 k hk
/-- A book with a list more. -/
theorem Bk2.more {K : Nat} {mu mu' : Int} {R' : Nat × Nat × Nat → Rw} (B : Bk2 R (o, 0, 0) o E0 sz0 bb tl K mu) (hz : mu + 400 ≤ mu') (hz2 : mu' ≤ 33554432) {b1 sa : Option Addr} {d1 sn sc : Nat}
    (e0 : R' (o, 0, 0) = ⟨E0, sz0, some ⟨bb, 0, none⟩, 1, 1, .slice b1 (K + 1) d1 :: .int .i64 mu' :: tl⟩)
    (e1 : R' (o, 1, 0) = ⟨25, 1, b1, K + 1, d1, ((List.range K).map fun k => (R (o, 3, k)).v) ++ [.slice sa sn sc]⟩)
    (e3 : R' (o, 3, K) = ⟨3, 1, sa, sn, sc, List.replicate sn (.int .i64 (mkB K))⟩) (hn1 : sn ≤ 4264304) (h3 : ∀ k, k < K → R' (o, 3, k) = R (o, 3, k)) : Bk2 R' (o, 0, 0) o E0 sz0 bb tl (K + 1) mu' := by
  have s0 := B.s0
  refine ⟨by rw [e0, e1]; rfl, ⟨b1, d1, ?_⟩, fun k hk => ?_, by push_cast; omega, by omega, by omega⟩
  · rw [e1, List.range_succ, List.map_append, List.map_singleton, e3]
    congr 2
    exact List.map_congr_left fun k hk => by rw [h3 k (by simpa using hk)]
  · by_cases e : k = K
    · subst e; exact ⟨_, _, _, hn1, e3⟩
    · rw [h3 k (by omega)]; exact B.e1 k (by omega)
theorem map_set {K k : Nat} (hk : k < K) (f g : Nat → Value) (v : Value) (hv : g k = v) (hfg : ∀ j, j ≠ k → g j = f j) : ((List.range K).map f).set k v = (List.range K).map g := by
  apply List.ext_getElem?
  intro j
  rw [List.getElem?_set]
  by_cases e : k = j
  · subst e
    simp [hk, hv]
  · rw [if_neg e, List.getElem?_map, List.getElem?_map]
    cases hj : (List.range K)[j]? with
    | none => rfl
    | some q =>
      have hq : q = j := by
        obtain ⟨h1, h2⟩ := List.getElem?_eq_some_iff.1 hj
        rw [List.getElem_range] at h2; exact h2.symm
      subst hq
      simp [hfg q (fun e' => e e'.symm)]
/-- A book with a list grown. -/
theorem Bk2.grown {K : Nat} {mu : Int} {R' : Nat × Nat × Nat → Rw} (B : Bk2 R (o, 0, 0) o E0 sz0 bb tl K mu) {k : Nat} (hk : k < K) {b1 bo1 : Option Addr} {d1 n1 c1 : Nat}
    (l1 : R (o, 1, 0) = ⟨25, 1, b1, K, d1, (List.range K).map fun k => (R (o, 3, k)).v⟩) (e0 : R' (o, 0, 0) = R (o, 0, 0))
    (e1 : R' (o, 1, 0) = ⟨25, 1, b1, K, d1, ((List.range K).map fun k => (R (o, 3, k)).v).set k (.slice bo1 n1 c1)⟩)
    (e3 : R' (o, 3, k) = ⟨3, 1, bo1, n1, c1, List.replicate n1 (.int .i64 (mkB k))⟩) (hn1 : n1 ≤ 4264304) (h3 : ∀ j, j ≠ k → R' (o, 3, j) = R (o, 3, j)) : Bk2 R' (o, 0, 0) o E0 sz0 bb tl K mu := by
  have hob := B.obj
  refine ⟨by rw [e0, hob, e1, l1]; rfl, ⟨b1, d1, ?_⟩, fun j hj => ?_, B.s0, B.s1, B.kb⟩
  · rw [e1, map_set hk (fun k => (R (o, 3, k)).v) (fun k => (R' (o, 3, k)).v) _ (by rw [e3]; rfl) (fun j hj => by rw [h3 j hj])]
  · by_cases e : j = k
    · subst e; exact ⟨_, _, _, hn1, e3⟩
    · rw [h3 j e]; exact B.e1 j hj
set_option maxRecDepth 100000 in
set_option maxHeartbeats 6400000 in
theorem take2_any {K N lc : Nat} {mu : Int} {q : Nat × Nat × Nat} {la : Option Addr} (H : Hold base w R) (B : Bk2 R (o, 0, 0) o E0 sz0 bb tl K mu) (hp : p ≠ o) (hq1 : q ≠ (o, 0, 0)) (hq2 : q ≠ (o, 1, 0)) (hq3 : ∀ k, q ≠ (o, 3, k)) (hq4 : ∀ j, q ≠ (p, 1, j))
    (hq : R q = ⟨25, 1, la, N, lc, (List.range N).map fun i => (R (p, 1, i)).v⟩) (he : ∀ i, i < N → ∃ ao n c xs, n ≤ 4194304 ∧ R (p, 1, i) = ⟨3, 1, ao, n, c, xs⟩) (hN : mu + N * 68229264 ≤ 4611686018427387904) :
    Calls Try.prog 37 #[.pointer (some ⟨bb, 0, none⟩), .slice la N lc] w (fun e w' => e = .returned (.tuple #[]) ∧ TakeP2 base w R o bb sz0 p E0 tl K mu N w') := by
  obtain ⟨ao0, c0, l0⟩ := B.l1
  have hob := B.obj
  rw [l0] at hob
  simp only [Rw.v] at hob
  have d0 : w.cell? ⟨bb, 0, none⟩ = some (.slice ao0 K c0) := H.cell hob 0 _ rfl
  have hcap := H.cap hq
  have HT0 : Hid (T1 base w R o bb sz0 p E0 tl K mu 0 w) := ⟨K, mu, R, Nat.le_refl _, H, B, fun _ _ => rfl, fun _ _ _ _ _ => rfl, Below.refl _ _, Int.le_refl _, by omega, fun k h1 h2 => absurd h2 (by omega)⟩
  have HQ := Lib.hid hq
  have HE := Lib.hid he
  have HNN := Lib.hid hN
  have HCAP := Lib.hid hcap
  have HP := Lib.hid hp
  have HQN := Lib.hid (And.intro hq1 (And.intro hq2 (And.intro hq3 hq4)))
  have hnc : N ≤ maxLen := Nat.le_trans hcap.1 hcap.2.1
  unfold maxLen at hnc
  have hmu0 : 0 ≤ mu := by have := B.s0; omega
  clear H B hob l0 hq he hN hcap hp hq1 hq2 hq3 hq4
  go_enter Try.func37, Try.ntmps37
  go_wp2_with fail
  go_loopw [5, 6, 7] (fun v5 v6 v7 wx => ∃ i : Nat, i ≤ N ∧ v5 = .int .i64 i ∧ Hid (T1 base w R o bb sz0 p E0 tl K mu i wx)) (fun v5 _ _ _ => N - (RowKit.intOf v5).toNat)
  case atStart => exact ⟨0, Nat.zero_le _, rfl, HT0⟩
  case round =>
    clear HT0 d0
    obtain ⟨i, hi, rfl, HT⟩ := hrel
    by_cases hlt : i < N
    · have hlt' : (i : Int) < N := by omega
      obtain ⟨K1, mu1, R1, hK1, h1, b1, hE1, hN1, hB1, hm1, hm2, hfr⟩ := HT.out
      have HFR := Lib.hid hfr
      obtain ⟨ao1, c1, l1⟩ := b1.l1
      have hob := b1.obj
      rw [l1] at hob
      simp only [Rw.v] at hob
      have s1 := b1.s0
      obtain ⟨g, rfl⟩ := HCAP.out.2.2.2.2 (by have := HCAP.out.1; omega)
      obtain ⟨ea, en, ec, xs, hen, ee⟩ := HE.out i hlt
      have hq1 := (hN1 q HQN.out.1 HQN.out.2.1 HQN.out.2.2.1 HQN.out.2.2.2).trans HQ.out
      have hqi : ((List.range N).map fun i => (R (p, 1, i)).v)[i]? = some (.slice ea en ec) := by rw [List.getElem?_map, List.getElem?_range hlt]; simp only [Option.map_some, ee, Rw.v]
      have di : wr.cell? ⟨g, i, none⟩ = some (.slice ea en ec) := h1.cell hq1 i _ hqi
      have ee1 := (hE1 i (Nat.le_refl _)).trans ee
      have hec := h1.cap ee1
      obtain ⟨V, hV⟩ : ∃ V : Nat, min ec (en + 70000) = V := ⟨_, rfl⟩
      have hV1 : V ≤ 4264304 := by omega
      have hV2 : en ≤ V := by omega
      have CR := Lib.hid (fun wy => room2_any en ec (by omega) wy)
      rw [hV] at CR
      have hnn := HNN.out
      have hiN : (i : Int) * 68229264 + 68229264 ≤ N * 68229264 := by omega
      obtain ⟨V6, hV6⟩ : ∃ z : Int, 16 * (V : Int) = z := ⟨_, rfl⟩
      have hwV : IntKind.i64.wrap (16 * (V : Int)) = V6 := by rw [hV6]; exact IntWalk.i64_in _ (by omega)
      have CF := Lib.hid (full2_any (h1.via (adrew1 wr)) hob (n := V6) (by omega) (by omega) (by omega))
      obtain ⟨mu2, hmu2⟩ : ∃ z : Int, mu1 + 400 + V6 = z := ⟨_, rfl⟩
      rw [hmu2] at CF
      have HZ : Hid (mu1 + 400 ≤ mu2 ∧ mu2 ≤ mu + (i + 1 : Nat) * 68229264 ∧ mu ≤ mu2) := ⟨by omega, by push_cast; omega, by omega⟩
      have H1 := Lib.hid h1
      have B1 := Lib.hid b1
      have E1 := Lib.hid hE1
      have N1 := Lib.hid hN1
      have L1 := Lib.hid l1
      have HB1 := Lib.hid hB1
      have HOB := Lib.hid hob
      have HQ1 := Lib.hid hq1
      have EE1 := Lib.hid ee1
      have HEC := Lib.hid hec
      have HK1 := Lib.hid hK1
      have HQI := Lib.hid hqi
      have hec1 : (en : Int) ≤ ec := by omega
      have HV := Lib.hid (And.intro hV hV2)
      clear hfr h1 b1 hE1 hN1 l1 hB1 hob hq1 ee1 hec hK1 ee hqi hm1 hm2 s1 hnn hiN hmu2 HT hV hV2 hV6
      go_upto_region 4 with fail
      go_region_held3 (fun wx => wx.cell? ⟨g, i, none⟩ = some (.slice ea en ec)) (go_keep)
        (first
        | (go_at_call 36; (with_reducible refine Calls.mono (CR.out _) ?_); rintro e w5 ⟨rfl, rfl⟩)
        | (go_at_call 35; (with_reducible refine Calls.mono CF.out ?_); rintro e w6 ⟨rfl, h6, hB6⟩; clear di; have di := h6.cell ((updR_ne HQN.out.1).trans HQ1.out) i _ HQI.out))
      have hbm : mu2 ≤ 4611686018427387904 := by
        have h1 := HZ.out.2.1
        have h2 := HNN.out
        have h3 : ((i + 1 : Nat) : Int) * 68229264 ≤ N * 68229264 := by omega
        omega
      have B2 := Lib.hid (B1.out.much (v1 := .slice ao1 K1 c1) (by rw [L1.out]; rfl) (mu' := mu2) (by have := HZ.out.1; omega) hbm)
      obtain ⟨R2, HR2⟩ : ∃ z, Hid (updR R1 (o, 0, 0) ⟨E0, sz0, some ⟨bb, 0, none⟩, 1, 1, .slice ao1 K1 c1 :: .int .i64 mu2 :: tl⟩ = z) := ⟨_, rfl⟩
      rw [HR2.out] at h6 B2
      have r20 : Hid (R2 (o, 0, 0) = ⟨E0, sz0, some ⟨bb, 0, none⟩, 1, 1, .slice ao1 K1 c1 :: .int .i64 mu2 :: tl⟩) := by show _ = _; rw [← HR2.out]; exact updR_eq
      have r2N : Hid (∀ t, t ≠ (o, 0, 0) → R2 t = R1 t) := fun t ht => by rw [← HR2.out]; exact updR_ne ht
      have HB6 : Hid (Below base w w6) := HB1.out.trans ((Below.refl _ _).drew.trans hB6)
      have H6 := Lib.hid h6
      have hpo : ∀ j, ((p, 1, j) : Nat × Nat × Nat) ≠ (o, 0, 0) := fun j e => by simp at e
      have HPO := Lib.hid hpo
      clear h6 hB6 CF CR hpo
      by_cases hf : 33554432 < mu2
      · have hdd : decide (33554432 < mu2) = true := by simpa using hf
        try rw [hdd]
        have HF : Hid (T1 base w R o bb sz0 p E0 tl K mu (i + 1) w6) := ⟨K1, mu2, R2, HK1.out, H6.out, B2.out, fun j hj => (r2N.out _ (HPO.out j)).trans (E1.out j (by omega)), fun t t0 t1 t3 tp => (r2N.out t t0).trans (N1.out t t0 t1 t3 tp), HB6.out, HZ.out.2.2, HZ.out.2.1, fun k h1 h2 => by rw [r2N.out _ (by simp)]; exact HFR.out k h1 h2⟩
        clear di
        go_wp2
        go_roundw
        case rel => exact ⟨i + 1, by omega, by go_num, HF⟩
        case measure => simp [RowKit.intOf]; omega
      · have hdd : decide (33554432 < mu2) = false := by simpa using hf
        try rw [hdd]
        have hmu2 : mu2 ≤ 33554432 := by omega
        have HMU := Lib.hid hmu2
        have s1 := B1.out.s0
        have hz1 := HZ.out.1
        have hk1 : K1 + 1 ≤ 83886 := by omega
        obtain ⟨m, HM⟩ : ∃ m, Hid (mkB K1 = m) := ⟨_, rfl⟩
        have hw1 : IntKind.i64.wrap (-1 - (K1 : Int)) = m := by rw [← HM.out]; exact IntWalk.i64_in _ (by omega)
        have d0 := H6.out.cell r20.out 0 _ rfl
        have r2p : Hid (R2 (p, 1, i) = ⟨3, 1, ea, en, ec, xs⟩) := (r2N.out _ (HPO.out i)).trans EE1.out
        have r2q : Hid (R2 q = ⟨25, 1, some ⟨g, 0, none⟩, N, lc, (List.range N).map fun i => (R (p, 1, i)).v⟩) := (r2N.out _ HQN.out.1).trans HQ1.out
        clear hmu2 s1 hz1 hf
        go_wp2_with fail
        go_loopw [7] (fun v7 wx => ∃ j : Nat, j ≤ en ∧ v7 = .int .i64 j ∧ Hid (Hold base wx (updR R2 (p, 1, i) ⟨3, 1, ea, en, ec, List.replicate j (.int .i64 m) ++ xs.drop j⟩)) ∧ Hid (Below base w wx)) (fun v7 _ => en - (RowKit.intOf v7).toNat)
        case atStart => exact ⟨0, Nat.zero_le _, rfl, by (show Hold _ _ _; simp only [List.replicate_zero, List.nil_append, List.drop_zero]; rw [updS_self r2p.out]; exact H6.out), HB6⟩
        case round =>
          obtain ⟨j, hj, rfl, HJ, HBJ⟩ := hrel
          clear d0 di
          have rj : (updR R2 (p, 1, i) ⟨3, 1, ea, en, ec, List.replicate j (.int .i64 m) ++ xs.drop j⟩) q = _ := (updR_ne (HQN.out.2.2.2 i)).trans r2q.out
          have di : wr.cell? ⟨g, i, none⟩ = some (.slice ea en ec) := HJ.out.cell rj i _ HQI.out
          have hxl := HEC.out.2.2.1
          rw [Nat.mul_one] at hxl
          by_cases hlj : j < en
          · have hlj' : (j : Int) < en := by omega
            obtain ⟨eg, rfl⟩ := HEC.out.2.2.2.2 (by have := HEC.out.1; omega)
            obtain ⟨x, hx⟩ : ∃ x, xs[j]? = some x := ⟨_, List.getElem?_eq_getElem (by omega)⟩
            have q1 := HJ.out.cell updR_eq j x (by rw [List.getElem?_append_right (by simp)]; simpa using hx)
            have q2 := HJ.out.frozen updR_eq j
            have HJ2 := HJ.out.put updR_eq j (.int .i64 m)
            rw [updS_two, rep_set (by omega)] at HJ2
            have HJ2 := Lib.hid HJ2
            have HBJ2 := Lib.hid (HBJ.out.trans (HJ.out.putB updR_eq j (.int .i64 m)))
            clear rj hxl hx
            go_wp2
            go_roundw
            case rel => first | exact ⟨j + 1, by omega, by go_num, HJ2, HBJ2⟩ | ((repeat apply Exists.intro); exact ⟨⟨j + 1, by omega, by go_num, HJ2, HBJ2⟩, rfl⟩)
            case measure => simp [RowKit.intOf]; omega
          · have hge : (en : Int) ≤ j := by omega
            obtain rfl : j = en := by omega
            rw [List.drop_of_length_le (by omega), List.append_nil] at HJ
            have hm3 := HJ.out.move (p, 1, i) (o, 3, K1) (by simp)
            rw [updR_eq, updS_two] at hm3
            obtain ⟨R3, HR3⟩ : ∃ z, Hid (updR (updR R2 (p, 1, i) Rw.nil) (o, 3, K1) ⟨3, 1, ea, j, ec, List.replicate j (.int .i64 m)⟩ = z) := ⟨_, rfl⟩
            rw [HR3.out] at hm3
            have H3 := Lib.hid hm3
            have r33 : Hid (R3 (o, 3, K1) = ⟨3, 1, ea, j, ec, List.replicate j (.int .i64 m)⟩) := by show _ = _; rw [← HR3.out]; exact updR_eq
            have r3N : Hid (∀ t, t ≠ (p, 1, i) → t ≠ (o, 3, K1) → R3 t = R2 t) := fun t h1 h2 => by rw [← HR3.out, updR_ne h2, updR_ne h1]
            have r30 : Hid (R3 (o, 0, 0) = ⟨E0, sz0, some ⟨bb, 0, none⟩, 1, 1, .slice ao1 K1 c1 :: .int .i64 mu2 :: tl⟩) := (r3N.out _ (fun e => HPO.out i e.symm) (by simp)).trans r20.out
            have r31 : Hid (R3 (o, 1, 0) = ⟨25, 1, ao1, K1, c1, (List.range K1).map fun k => (R1 (o, 3, k)).v⟩) := ((r3N.out _ (fun e => HP.out (congrArg Prod.fst e).symm) (by simp)).trans (r2N.out _ (by simp))).trans L1.out
            clear hxl rj hm3
            go_upto_region 10 with fail
            obtain ⟨i14, hi14, hza14, hzb14, hzc14⟩ := info_parts (P := Try.prog) (e := 25) (z := .slice none 0 0) (size := 1) (bytes := 24) (by kernel_rfl)
            have hmx : K1 + 1 ≤ maxLen := by unfold maxLen; omega
            have hbyt : (K1 + 1) * 24 ≤ 140737488355328 := by omega
            have HNa : Hid (Hold base (wr.alloc (.cells #[.slice ea j ec] 25)).drew R3) := (H3.out.via (abal _ _)).via (adrew1 _)
            have hnews : ∀ (q : Nat) (v : Value), [.slice ea j ec][q]? = some v → (wr.alloc (.cells #[.slice ea j ec] 25)).drew.cell? (Addr.add ⟨wr.heap.size, 0, none⟩ q) = some v := by
              intro q v hv
              cases q with
              | zero => simp at hv; subst hv; simp [go_sem]
              | succ q => simp at hv
            have HNW := Lib.hid hnews
            have k0 := H3.out.cell r30.out 0 _ rfl
            have k1 := H3.out.frozen r30.out 0
            have k3 : (wr.alloc (.cells #[.slice ea j ec] 25)).cell? ⟨bb, 0, none⟩ = some (.slice ao1 K1 c1) := (H3.out.via (abal _ _)).cell r30.out 0 _ rfl
            clear hnews
            go_region_law (refine Hold.step_append HNa.out rfl _ _ 45 (by rfl) (o, 1, 0) 25 i14 (.slice none 0 0) 1 24 Try.underlying45 hi14 hza14 hzb14 hzc14 rfl (by decide) r31.out (by rfl) ⟨wr.heap.size, 0, none⟩ 1 1 (by rfl) [.slice ea j ec] rfl HNW.out (by simp [Value.oneCell']) hmx hbyt ?_; intro b9 d9 w9 hH9 hB9; have q1 := hH9.cell ((updR_ne (by simp)).trans r30.out) 0 _ rfl; have q2 := hH9.frozen ((updR_ne (by simp)).trans r30.out) 0)
            all_goals
              have HX := hH9.put ((updR_ne (by simp)).trans r30.out) 0 (.slice b9 (K1 + 1) d9)
              simp only [List.set_cons_zero] at HX
              have HF : Hid (T1 base w R o bb sz0 p E0 tl K mu (i + 1) (w9.setCell ⟨bb, 0, none⟩ (.slice b9 (K1 + 1) d9))) := by
                have rN : ∀ t, t ≠ (o, 0, 0) → t ≠ (o, 1, 0) → updR (updR R3 (o, 1, 0) ⟨25, 1, b9, K1 + 1, d9, ((List.range K1).map fun k => (R1 (o, 3, k)).v) ++ [.slice ea j ec]⟩) (o, 0, 0) ⟨E0, sz0, some ⟨bb, 0, none⟩, 1, 1, .slice b9 (K1 + 1) d9 :: .int .i64 mu2 :: tl⟩ t = R3 t := fun t h0 h1 => by rw [updR_ne h0, updR_ne h1]
                refine ⟨K1 + 1, mu2, _, by have := HK1.out; omega, HX, ?_, fun jj hj => ?_, fun t t0 t1 t3 tp => ?_, ((HBJ.out.trans (((abal _ _).mono H3.out.base).drew)).trans hB9).trans (hH9.putB ((updR_ne (by simp)).trans r30.out) 0 _), HZ.out.2.2, HZ.out.2.1, fun k h1 h2 => ?_⟩
                · refine B1.out.more HZ.out.1 HMU.out (b1 := b9) (d1 := d9) (sa := ea) (sn := j) (sc := ec) updR_eq (by rw [updR_ne (by simp), updR_eq]) ?_ (by omega) (fun k hk => ?_)
                  · rw [rN _ (by simp) (by simp), r33.out, HM.out]
                  · rw [rN _ (by simp) (by simp), r3N.out _ (by simp) (by simp; omega)]
                    exact r2N.out _ (by simp)
                · rw [rN _ (HPO.out jj) (by simp; intro e; exact absurd e HP.out), r3N.out _ (by simp; omega) (by simp), r2N.out _ (HPO.out jj)]
                  exact E1.out jj (by omega)
                · rw [rN _ t0 t1, r3N.out _ (tp i) (t3 K1), r2N.out _ t0]
                  exact N1.out t t0 t1 t3 tp
                · rw [rN _ (by simp) (by simp)]
                  by_cases e : k = K1
                  · subst e; rw [r33.out]; exact hen
                  · rw [r3N.out _ (by simp) (by simpa using e), r2N.out _ (by simp)]; exact HFR.out k h1 (by omega)
              clear hH9 hB9 HX k0 k1 k3 q1 q2
              go_wp2
              go_roundw
              case rel => first | exact ⟨i + 1, by omega, by go_num, HF⟩ | ((repeat apply Exists.intro); exact ⟨⟨i + 1, by omega, by go_num, HF⟩, rfl⟩)
              case measure => simp [RowKit.intOf]; omega
    · have hge : (N : Int) ≤ i := by omega
      obtain rfl : i = N := by omega
      obtain ⟨K1, mu1, R1, hK1, h1, b1, hE1, hN1, hB1, hm1, hm2, hfr⟩ := HT.out
      have HFR := Lib.hid hfr
      obtain ⟨W1, hW1⟩ : ∃ z : World, z = wr := ⟨_, rfl⟩
      subst hW1
      have kb1 := b1.kb
      have HT3 : Hid (∃ R2 : Nat × Nat × Nat → Rw, Hold base W1 R2 ∧ Bk2 R2 (o, 0, 0) o E0 sz0 bb tl K1 mu1 ∧ (∀ t, t ≠ (o, 1, 0) → (∀ k, t ≠ (o, 3, k)) → R2 t = R1 t) ∧ Below base w W1 ∧ (∀ j, K ≤ j → R2 (o, 3, j) = R1 (o, 3, j))) := ⟨R1, h1, b1, fun _ _ _ => rfl, hB1, fun _ _ => rfl⟩
      have E1 := Lib.hid hE1
      have N1 := Lib.hid hN1
      have HK1 := Lib.hid hK1
      have HM12 := Lib.hid (And.intro hm1 hm2)
      have hK1' : (K : Int) ≤ K1 := by omega
      have HPN := Lib.hid (fun j => (show ((p, 1, j) : Nat × Nat × Nat) ≠ (o, 1, 0) from fun e => HP.out (congrArg Prod.fst e)))
      clear hfr h1 b1 hE1 hN1 hB1 hm1 hm2 HT
      go_wp2_with fail
      go_loopw [8, 9, 10] (fun v8 v9 v10 wx => ∃ k : Nat, K ≤ k ∧ k ≤ K1 ∧ v8 = .int .i64 k ∧ Hid (∃ R2 : Nat × Nat × Nat → Rw, Hold base wx R2 ∧ Bk2 R2 (o, 0, 0) o E0 sz0 bb tl K1 mu1 ∧ (∀ t, t ≠ (o, 1, 0) → (∀ k, t ≠ (o, 3, k)) → R2 t = R1 t) ∧ Below base w wx ∧ (∀ j, k ≤ j → R2 (o, 3, j) = R1 (o, 3, j)))) (fun v8 _ _ _ => K1 - (RowKit.intOf v8).toNat)
      case atStart => exact ⟨K, Nat.le_refl _, HK1.out, rfl, HT3⟩
      case round =>
        clear HT3
        obtain ⟨k, hkK, hk, rfl, HT⟩ := hrel
        obtain ⟨R2, h2, b2, hN2, hB2, hF2⟩ := HT.out
        obtain ⟨ao1, c1, l1⟩ := b2.l1
        have hob := b2.obj
        rw [l1] at hob
        simp only [Rw.v] at hob
        have d0 : wr.cell? ⟨bb, 0, none⟩ = some (.slice ao1 K1 c1) := h2.cell hob 0 _ rfl
        by_cases hlk : k < K1
        · have hlk' : (k : Int) < K1 := by omega
          obtain ⟨g1, rfl⟩ := (h2.cap l1).2.2.2.2 (by have := (h2.cap l1).1; omega)
          obtain ⟨ea, en, ec, hen, ee⟩ := b2.e1 k hlk
          have hqi : ((List.range K1).map fun k => (R2 (o, 3, k)).v)[k]? = some (.slice ea en ec) := by rw [List.getElem?_map, List.getElem?_range hlk]; simp only [Option.map_some, ee, Rw.v]
          have r1 := h2.cell l1 k _ hqi
          have hec := h2.cap ee
          obtain ⟨V, hV⟩ : ∃ V : Nat, min ec (en + 70000) = V := ⟨_, rfl⟩
          have hen4 : en ≤ 4194304 := by
            have h := HFR.out k hkK hlk
            rw [← hF2 k (Nat.le_refl _), ee] at h
            exact h
          have hV1 : V ≤ 4264304 := by omega
          have hV2 : en ≤ V := by omega
          have hV3 : V ≤ ec := by omega
          have CR := Lib.hid (fun wy => room2_any en ec (by omega) wy)
          rw [hV] at CR
          obtain ⟨m, HM⟩ : ∃ m, Hid (mkB k = m) := ⟨_, rfl⟩
          have hw1 : IntKind.i64.wrap (-1 - (k : Int)) = m := by rw [← HM.out]; exact IntWalk.i64_in _ (by omega)
          rw [HM.out] at ee
          have H2 := Lib.hid h2
          have B2 := Lib.hid b2
          have N2 := Lib.hid hN2
          have HB2 := Lib.hid hB2
          have F2 := Lib.hid hF2
          have L1 := Lib.hid l1
          have HOB := Lib.hid hob
          have EE := Lib.hid ee
          have HQI := Lib.hid hqi
          clear h2 b2 hN2 hB2 hF2 l1 hob ee hqi hec hV HT
          go_wp2_with fail
          refine (CR.out _).mono ?_; rintro e w5 ⟨rfl, hw5⟩
          have hw5' := hw5.symm
          subst hw5'
          clear d0 r1
          go_wp2_with fail
          go_loopw [9] (fun v wx => ∃ i : Nat, v = .slice ea i ec ∧ en ≤ i ∧ i ≤ V ∧ Hid (Hold base wx (updR R2 (o, 3, k) ⟨3, 1, ea, i, ec, List.replicate i (.int .i64 m)⟩)) ∧ Hid (Below base w wx)) (fun v _ => V - lenX v)
          case atStart => exact ⟨en, rfl, Nat.le_refl _, hV2, by (show Hold _ _ _; rw [updS_self EE.out]; exact H2.out), HB2⟩
          case round =>
            obtain ⟨ii, rfl, hi1, hi2, HI, HBI⟩ := hrel
            by_cases hli : ii < V
            · have hli' : (ii : Int) < V := by omega
              obtain ⟨gg, hg⟩ := (HI.out.cap updR_eq).2.2.2.2 (by omega)
              subst hg
              obtain ⟨i0, hi0, hz0, hz1, hz2⟩ := info_parts (P := Try.prog) (e := 3) (z := .int .i64 0) (size := 1) (bytes := 8) (by kernel_rfl)
              have HNa : Hid (Hold base (wr.alloc (.cells #[.int .i64 m] 3)) (updR R2 (o, 3, k) ⟨3, 1, some ⟨gg, 0, none⟩, ii, ec, List.replicate ii (.int .i64 m)⟩)) := HI.out.via (abal _ _)
              have hnew : (wr.alloc (.cells #[.int .i64 m] 3)).cell? ⟨wr.heap.size, 0, none⟩ = some (.int .i64 m) := by simp [go_sem]
              have HNW := Lib.hid hnew
              have hroom : ii + 1 ≤ ec := by omega
              have HBB : Hid (Below base w (wr.alloc (.cells #[.int .i64 m] 3))) := HBI.out.trans ((abal _ _).mono HI.out.base)
              clear hnew
              go_wp2_with (at_builtin; refine Hold.wpList_room HNa.out rfl _ _ 25 rfl (o, 3, k) 3 i0 Try.underlying25 hi0 hz1 updR_eq hroom rfl ⟨wr.heap.size, 0, none⟩ 1 rfl (.int .i64 m) HNW.out rfl rfl ?_)
              intro w9 hH9 hB9
              rw [updS_two, ← List.replicate_succ'] at hH9
              have HH9 := Lib.hid hH9
              have HB9 := Lib.hid (HBB.out.trans hB9)
              clear hH9 hB9
              go_wp2
              go_roundw
              case rel => first | exact ⟨ii + 1, rfl, by omega, by omega, HH9, HB9⟩ | ((repeat apply Exists.intro); exact ⟨⟨ii + 1, rfl, by omega, by omega, HH9, HB9⟩, rfl⟩)
              case measure => simp [lenX]; omega
            · have hge : (V : Int) ≤ ii := by omega
              obtain rfl : V = ii := by omega
              have rg1 := (updR_ne (R := R2) (r := ⟨3, 1, ea, V, ec, List.replicate V (.int .i64 m)⟩) (show (o, 1, 0) ≠ (o, 3, k) by simp)).trans L1.out
              have rg0 := (updR_ne (R := R2) (r := ⟨3, 1, ea, V, ec, List.replicate V (.int .i64 m)⟩) (show (o, 0, 0) ≠ (o, 3, k) by simp)).trans HOB.out
              have q0 := HI.out.cell rg0 0 _ rfl
              have q1 := HI.out.cell rg1 k _ HQI.out
              have q2 := HI.out.frozen rg1 k
              have hPp := HI.out.put rg1 k (.slice ea V ec)
              have HF : Hid (∃ R2 : Nat × Nat × Nat → Rw, Hold base (wr.setCell ⟨g1, k, none⟩ (.slice ea V ec)) R2 ∧ Bk2 R2 (o, 0, 0) o E0 sz0 bb tl K1 mu1 ∧ (∀ t, t ≠ (o, 1, 0) → (∀ k, t ≠ (o, 3, k)) → R2 t = R1 t) ∧ Below base w (wr.setCell ⟨g1, k, none⟩ (.slice ea V ec)) ∧ (∀ j, k + 1 ≤ j → R2 (o, 3, j) = R1 (o, 3, j))) := by
                refine ⟨_, hPp, ?_, fun t h1 h3 => ?_, HBI.out.trans (HI.out.putB rg1 k _), fun j hj => ?_⟩
                · refine B2.out.grown hlk L1.out (bo1 := ea) (n1 := V) (c1 := ec) ?_ updR_eq ?_ (by omega) (fun j hj => ?_)
                  · rw [updR_ne (by simp), updR_ne (by simp)]
                  · rw [updR_ne (by simp), updR_eq, HM.out]
                  · rw [updR_ne (by simp), updR_ne (by simpa using hj)]
                · rw [updR_ne h1, updR_ne (h3 k)]; exact N2.out t h1 h3
                · rw [updR_ne (by simp), updR_ne (by simp; omega)]; exact F2.out j (by omega)
              clear hPp rg1 rg0
              go_wp2
              go_roundw
              case rel => first | exact ⟨k + 1, by omega, by omega, by go_num, HF⟩ | ((repeat apply Exists.intro); exact ⟨⟨k + 1, by omega, by omega, by go_num, HF⟩, rfl⟩)
              case measure => simp [RowKit.intOf]; omega
        · have hgk : (K1 : Int) ≤ k := by omega
          have HF : Hid (TakeP2 base w R o bb sz0 p E0 tl K mu i wr) := ⟨K1, mu1, R2, HK1.out, h2, b2, fun t t0 t1 t3 tp => (hN2 t t1 t3).trans (N1.out t t0 t1 t3 tp), hB2, HM12.out.1, HM12.out.2⟩
          clear h2 b2 hN2 hB2 hF2 l1 hob
          go_wp2
          go_end0
          exact ⟨rfl, HF.out⟩
end
end Go.Proofs.Ytoippfoeghjdoaa

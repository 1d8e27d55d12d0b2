/- The arrays that layer 4's laws (and later ones) leave untouched: Keep. -/
import Derived.Test.YtoippfoeghjdoaaTake4
import Derived.Test.YtoippfoeghjdoaaEqAll
import Derived.StillTailTactics
import Derived.Deep.CutBlock
namespace Go.Proofs.Ytoippfoeghjdoaa
open Go.RowKit Go.Lib
set_option linter.unusedVariables false
set_option linter.unusedSimpArgs false
attribute [local go_sem] alloc_drewN setCell_drewN
/-- What an array's numbers are good for. -/
structure ArOk4 (A : Ar) : Prop where
  b1 : A.sn ≤ 4194304
  b2 : A.an ≤ 4194304
  r1 : ∀ i, -9223372036854775808 ≤ A.s.getD i 0 ∧ A.s.getD i 0 ≤ 9223372036854775807
  r2 : ∀ i, -9223372036854775808 ≤ A.a.getD i 0 ∧ A.a.getD i 0 ≤ 9223372036854775807
def vS4 (A : Ar) : Value := .slice A.sa A.sn A.sc
def vA4 (A : Ar) : Value := .slice A.aa A.an A.ac
theorem news4 (w : World) (T : TypeId) (x y : Value) : ∀ (q : Nat) (v : Value), [x, y][q]? = some v → (w.alloc (.cells #[x, y] T)).cell? (Addr.add ⟨w.heap.size, 0, none⟩ q) = some v := by
  intro q v hv
  match q with
  | 0 => simp at hv; subst hv; simp [go_sem]
  | 1 => simp at hv; subst hv; simp [go_sem]
  | q + 2 => simp at hv
/-- The rows (20, ..), (21, ..), (22, ..) are arrays that are left untouched, and what they were. -/
structure Qt (R : Nat × Nat × Nat → Rw) (qb n : Nat) (mu : Int) (va wa : Nat → Ar) (nm : Nat → Nat) (Z : Nat) : Prop where
  obj : R (20, 0, 0) = ⟨54, 3, some ⟨qb, 0, none⟩, 1, 1, [(R (20, 1, 0)).v, (R (20, 2, 0)).v, .int .i64 mu]⟩
  l1 : ∃ ao c, R (20, 1, 0) = ⟨38, 2, ao, n, c, (List.range n).flatMap fun k => [vS4 (va k), vA4 (va k)]⟩
  l2 : ∃ ao c, R (20, 2, 0) = ⟨38, 2, ao, n, c, (List.range n).flatMap fun k => [vS4 (wa k), vA4 (wa k)]⟩
  e1 : ∀ k, k < n → R (21, 1, k) = rowS (va k) ∧ R (21, 2, k) = rowA (va k)
  e2 : ∀ k, k < n → R (22, 1, nm k) = rowS (wa k) ∧ R (22, 2, nm k) = rowA (wa k)
  ok : ∀ k, k < n → ArOk4 (va k) ∧ ArOk4 (wa k) ∧ (va k).s = (wa k).s ∧ (va k).a = (wa k).a
  s0 : (n : Int) * 800 ≤ mu
  s1 : mu ≤ 4611686018427387904
  nb : n ≤ 41944
  nz : ∀ k, k < n → nm k < Z
section
variable {base : Nat} {w : World} {R : Nat × Nat × Nat → Rw} {qb n p J : Nat} {mu mu' : Int} {va wa : Nat → Ar} {nm : Nat → Nat}
theorem Hold.isA4 (h : Hold base w R) {t1 t2 : Nat × Nat × Nat} {A : Ar} (e1 : R t1 = rowS A) (e2 : R t2 = rowA A) (ok : ArOk4 A) : A.Is w := ⟨h.ls e1 (by have := ok.b1; omega) ok.r1, h.ls e2 (by have := ok.b2; omega) ok.r2⟩
theorem Qt.congr {R' : Nat × Nat × Nat → Rw} (h : Qt R qb n mu va wa nm J) (hR : ∀ t, t.1 = 20 ∨ t.1 = 21 ∨ t.1 = 22 → R' t = R t) : Qt R' qb n mu va wa nm J := by
  refine ⟨?_, ?_, ?_, fun k hk => ?_, fun k hk => ?_, h.ok, h.s0, h.s1, h.nb, h.nz⟩
  · rw [hR _ (.inl rfl), hR _ (.inl rfl), hR _ (.inl rfl)]; exact h.obj
  · rw [hR _ (.inl rfl)]; exact h.l1
  · rw [hR _ (.inl rfl)]; exact h.l2
  · rw [hR _ (.inr (.inl rfl)), hR _ (.inr (.inl rfl))]; exact h.e1 k hk
  · rw [hR _ (.inr (.inr rfl)), hR _ (.inr (.inr rfl))]; exact h.e2 k hk
theorem Qt.much (h : Qt R qb n mu va wa nm J) {v1 v2 : Value} (hv1 : (R (20, 1, 0)).v = v1) (hv2 : (R (20, 2, 0)).v = v2) (hm : mu ≤ mu') (hm2 : mu' ≤ 4611686018427387904) : Qt (updR R (20, 0, 0) ⟨54, 3, some ⟨qb, 0, none⟩, 1, 1, [v1, v2, .int .i64 mu']⟩) qb n mu' va wa nm J := by
  have e : ∀ t : Nat × Nat × Nat, t ≠ (20, 0, 0) → updR R (20, 0, 0) ⟨54, 3, some ⟨qb, 0, none⟩, 1, 1, [v1, v2, .int .i64 mu']⟩ t = R t := fun t ht => updR_ne ht
  refine ⟨?_, ?_, ?_, fun k hk => ?_, fun k hk => ?_, h.ok, by have := h.s0; omega, hm2, h.nb, h.nz⟩
  · rw [updR_eq, e _ (by simp), e _ (by simp), hv1, hv2]
  · rw [e _ (by simp)]; exact h.l1
  · rw [e _ (by simp)]; exact h.l2
  · rw [e _ (by simp), e _ (by simp)]; exact h.e1 k hk
  · rw [e _ (by simp), e _ (by simp)]; exact h.e2 k hk
/-- An array more. -/
theorem Qt.more {R' : Nat × Nat × Nat → Rw} (h : Qt R qb n mu va wa nm J) (hz1 : mu < 33554432) (hz : ((n + 1 : Nat) : Int) * 800 ≤ mu) {Y Z : Ar} {j : Nat} {b1 b2 : Option Addr} {d1 d2 : Nat}
    (e0 : R' (20, 0, 0) = ⟨54, 3, some ⟨qb, 0, none⟩, 1, 1, [.slice b1 (n + 1) d1, .slice b2 (n + 1) d2, .int .i64 mu]⟩)
    (e1 : R' (20, 1, 0) = ⟨38, 2, b1, n + 1, d1, ((List.range n).flatMap fun k => [vS4 (va k), vA4 (va k)]) ++ [vS4 Y, vA4 Y]⟩)
    (e2 : R' (20, 2, 0) = ⟨38, 2, b2, n + 1, d2, ((List.range n).flatMap fun k => [vS4 (wa k), vA4 (wa k)]) ++ [vS4 Z, vA4 Z]⟩)
    (hj : j < J) (e3 : R' (21, 1, n) = rowS Y ∧ R' (21, 2, n) = rowA Y) (e4 : R' (22, 1, j) = rowS Z ∧ R' (22, 2, j) = rowA Z) (hy : ArOk4 Y) (hz3 : ArOk4 Z) (hs : Y.s = Z.s) (ha : Y.a = Z.a)
    (h21 : ∀ a k, k < n → R' (21, a, k) = R (21, a, k)) (h22 : ∀ a k, R' (22, a, k) = R (22, a, k)) : Qt R' qb (n + 1) mu (fun k => if k = n then Y else va k) (fun k => if k = n then Z else wa k) (fun k => if k = n then j else nm k) J := by
  have key : ∀ (f : Nat → Ar) (Y : Ar), ((List.range n).flatMap fun k => [vS4 (f k), vA4 (f k)]) ++ [vS4 Y, vA4 Y] = (List.range (n + 1)).flatMap fun k => [vS4 (if k = n then Y else f k), vA4 (if k = n then Y else f k)] := fun f Y => by
    rw [List.range_succ, List.flatMap_append]
    congr 1
    · rw [List.flatMap_def, List.flatMap_def]
      congr 1
      exact List.map_congr_left fun k hk => by
        have : k ≠ n := by have := List.mem_range.1 hk; omega
        simp [this]
    · simp
  refine ⟨by rw [e0, e1, e2]; rfl, ⟨b1, d1, by rw [e1, key]⟩, ⟨b2, d2, by rw [e2, key]⟩, fun k hk => ?_, fun k hk => ?_, fun k hk => ?_, hz, by omega, by omega, fun k hk => ?_⟩
  · by_cases e : k = n
    · subst e; simpa using e3
    · rw [h21 1 k (by omega), h21 2 k (by omega)]; simp only [e, if_false]; exact h.e1 k (by omega)
  · by_cases e : k = n
    · subst e; simpa using e4
    · simp only [e, if_false]; rw [h22, h22]; exact h.e2 k (by omega)
  · by_cases e : k = n
    · subst e; simp; exact ⟨hy, hz3, hs, ha⟩
    · simp only [e, if_false]; exact h.ok k (by omega)
  · by_cases e : k = n
    · simp [e, hj]
    · simp only [e, if_false]; exact h.nz k (by omega)
/-- Behind Keep. -/
def KeepP4 (base : Nat) (w : World) (R : Nat × Nat × Nat → Rw) (qb p J : Nat) (ga : Nat → Ar) (mu : Int) (N : Nat) (wx : World) : Prop :=
  ∃ (n' : Nat) (mu' : Int) (va' wa' : Nat → Ar) (nm' : Nat → Nat) (R' : Nat × Nat × Nat → Rw), Hold base wx R' ∧ Qt R' qb n' mu' va' wa' nm' J ∧ (∀ j, j < N → ∃ q k, (q = p ∧ k = j ∨ q = 21 ∧ k < n') ∧ R' (q, 1, k) = rowS (ga j) ∧ R' (q, 2, k) = rowA (ga j)) ∧ (∀ t, t.1 ≠ 20 → t.1 ≠ 21 → t.1 ≠ p → R' t = R t) ∧ Below base w wx ∧ mu ≤ mu' ∧ mu' ≤ mu + N * 251659040
def KeepI4 (base : Nat) (w : World) (R : Nat × Nat × Nat → Rw) (qb p J : Nat) (ga : Nat → Ar) (mu : Int) (N i : Nat) (wx : World) : Prop :=
  ∃ (n' : Nat) (mu' : Int) (va' wa' : Nat → Ar) (nm' : Nat → Nat) (R' : Nat × Nat × Nat → Rw), Hold base wx R' ∧ Qt R' qb n' mu' va' wa' nm' J ∧ (∀ j, j < N → ∃ q k, (q = p ∧ k = j ∨ q = 21 ∧ k < n') ∧ R' (q, 1, k) = rowS (ga j) ∧ R' (q, 2, k) = rowA (ga j)) ∧ (∀ t, t.1 ≠ 20 → t.1 ≠ 21 → t.1 ≠ p → R' t = R t) ∧ (∀ a j, i ≤ j → R' (p, a, j) = R (p, a, j)) ∧ Below base w wx ∧ mu ≤ mu' ∧ mu' ≤ mu + i * 251659040
set_option maxRecDepth 100000 in
set_option maxHeartbeats 6400000 in
theorem qkeep4_any {N lc mc : Nat} {q1 q2 : Nat × Nat × Nat} {la ma : Option Addr} {ga wt : Nat → Ar} {mm : Nat → Nat} (H : Hold base w R) (B : Qt R qb n mu va wa nm J) (hp : p ≠ 20 ∧ p ≠ 21 ∧ p ≠ 22) (hq1 : q1.1 ≠ 20 ∧ q1.1 ≠ 21 ∧ q1.1 ≠ p) (hq2 : q2.1 ≠ 20 ∧ q2.1 ≠ 21 ∧ q2.1 ≠ p)
    (hl1 : R q1 = ⟨38, 2, la, N, lc, (List.range N).flatMap fun i => [vS4 (ga i), vA4 (ga i)]⟩) (hl2 : R q2 = ⟨38, 2, ma, N, mc, (List.range N).flatMap fun i => [vS4 (wt i), vA4 (wt i)]⟩)
    (hg : ∀ i, i < N → R (p, 1, i) = rowS (ga i) ∧ R (p, 2, i) = rowA (ga i)) (hw : ∀ i, i < N → R (22, 1, mm i) = rowS (wt i) ∧ R (22, 2, mm i) = rowA (wt i))
    (hok : ∀ i, i < N → ArOk4 (ga i) ∧ ArOk4 (wt i) ∧ (ga i).s = (wt i).s ∧ (ga i).a = (wt i).a) (hmm : ∀ i, i < N → mm i < J) (hN : mu + N * 251659040 ≤ 4611686018427387904) (hN2 : N ≤ 1000000) :
    Calls Try.prog 39 #[.pointer (some ⟨qb, 0, none⟩), .slice la N lc, .slice ma N mc] w (fun e w' => e = .returned (.tuple #[]) ∧ KeepP4 base w R qb p J ga mu N w') := by
  have H0 : Hid (KeepI4 base w R qb p J ga mu N 0 w) := ⟨n, mu, va, wa, nm, R, H, B, fun j hj => ⟨p, j, .inl ⟨rfl, rfl⟩, hg j hj⟩, fun _ _ _ _ => rfl, fun _ _ _ => rfl, Below.refl _ _, Int.le_refl _, by omega⟩
  have hcap1 := H.cap hl1
  have hcap2 := H.cap hl2
  have HC1 := Lib.hid hcap1
  have HC2 := Lib.hid hcap2
  have HP := Lib.hid hp
  have HQ1 := Lib.hid hq1
  have HQ2 := Lib.hid hq2
  have HL1 := Lib.hid hl1
  have HL2 := Lib.hid hl2
  have HG := Lib.hid hg
  have HW := Lib.hid hw
  have HOK := Lib.hid hok
  have HMM := Lib.hid hmm
  have HN := Lib.hid hN
  have hmu0 : 0 ≤ mu := by have := B.s0; omega
  clear H B hp hq1 hq2 hl1 hl2 hg hw hok hmm hN hcap1 hcap2
  go_enter Try.func39, Try.ntmps39
  go_wp2_with fail
  go_loopw [6] (fun v6 wx => ∃ i : Nat, i ≤ N ∧ v6 = .int .i64 i ∧ Hid (KeepI4 base w R qb p J ga mu N i wx)) (fun v6 _ => N - (RowKit.intOf v6).toNat)
  case atStart => exact ⟨0, Nat.zero_le _, rfl, H0⟩
  case round =>
    clear H0
    obtain ⟨i, hi, rfl, HK⟩ := hrel
    obtain ⟨M, z, va1, wa1, nm1, R1, h1, b1, hT1, hN1, hE1, hB1, hm1, hm2⟩ := HK.out
    by_cases hlt : i < N
    · have hlt' : (i : Int) < N := by omega
      obtain ⟨p1, x1, l1⟩ := b1.l1
      obtain ⟨p2, x2, l2⟩ := b1.l2
      have hob := b1.obj
      rw [l1, l2] at hob
      simp only [Rw.v] at hob
      have s0 := b1.s0
      have kb := b1.nb
      obtain ⟨g1, rfl⟩ := HC1.out.2.2.2.2 (by have := HC1.out.1; omega)
      obtain ⟨g2, rfl⟩ := HC2.out.2.2.2.2 (by have := HC2.out.1; omega)
      obtain ⟨hy1, hy2⟩ := HG.out i hlt
      obtain ⟨hw1, hw2⟩ := HW.out i hlt
      obtain ⟨ok1, ok2, es, ea⟩ := HOK.out i hlt
      obtain ⟨qa0, qa1⟩ := pairs4_at (fun k => vS4 (ga k)) (fun k => vA4 (ga k)) N i hlt
      obtain ⟨qb0, qb1⟩ := pairs4_at (fun k => vS4 (wt k)) (fun k => vA4 (wt k)) N i hlt
      obtain ⟨Y, HY⟩ : ∃ Y, Hid (ga i = Y) := ⟨_, rfl⟩
      obtain ⟨Z, HZ⟩ : ∃ Z, Hid (wt i = Z) := ⟨_, rfl⟩
      simp only [HY.out, HZ.out] at qa0 qa1 qb0 qb1 hy1 hy2 hw1 hw2 ok1 ok2 es ea
      have e1 := (hN1 q1 HQ1.out.1 HQ1.out.2.1 HQ1.out.2.2).trans HL1.out
      have e2 := (hN1 q2 HQ2.out.1 HQ2.out.2.1 HQ2.out.2.2).trans HL2.out
      obtain ⟨ta, tn, tc, ba, bn, bc, t, b⟩ := Y
      obtain ⟨ca, cn, cc, da, dn, dc, c, d⟩ := Z
      simp only at es ea
      subst es ea
      simp only [vS4, vA4] at qa0 qa1 qb0 qb1
      have ob1 := ok2.b1
      have ob2 := ok2.b2
      simp only at ob1 ob2
      have HNN := HN.out
      have hiN : (i : Int) * 251659040 + 251659040 ≤ N * 251659040 := by omega
      have w1 : IntKind.i64.wrap (z + 800) = z + 800 := IntWalk.i64_in _ (by omega)
      have w2 : IntKind.i64.wrap (30 * (dn : Int)) = 30 * dn := IntWalk.i64_in _ (by omega)
      have w3 : IntKind.i64.wrap (30 * (cn : Int)) = 30 * cn := IntWalk.i64_in _ (by omega)
      have w4 : IntKind.i64.wrap (z + 800 + 30 * (dn : Int)) = z + 800 + 30 * dn := IntWalk.i64_in _ (by omega)
      obtain ⟨Z2, HZ2⟩ : ∃ q, Hid (z + 800 + 30 * (dn : Int) + 30 * cn = q) := ⟨_, rfl⟩
      have w5 : IntKind.i64.wrap (z + 800 + 30 * (dn : Int) + 30 * cn) = Z2 := by rw [← HZ2.out]; exact IntWalk.i64_in _ (by omega)
      have HZZ : Hid (z + 800 ≤ Z2 ∧ Z2 ≤ mu + (i + 1 : Nat) * 251659040 ∧ Z2 ≤ 4611686018427387904 ∧ mu ≤ Z2) := by rw [← HZ2.out]; exact ⟨by omega, by push_cast; omega, by omega, by omega⟩
      have H1 := Lib.hid h1
      have B1 := Lib.hid b1
      have N1 := Lib.hid hN1
      have E1 := Lib.hid hE1
      have T1 := Lib.hid hT1
      have BB1 := Lib.hid hB1
      have LL1 := Lib.hid l1
      have LL2 := Lib.hid l2
      have OB := Lib.hid hob
      have A1 := Lib.hid e1
      have A2 := Lib.hid e2
      have QA0 := Lib.hid qa0
      have QA1 := Lib.hid qa1
      have QB0 := Lib.hid qb0
      have QB1 := Lib.hid qb1
      have OKY := Lib.hid (And.intro ok1 ok2)
      have HY12 := Lib.hid (And.intro hy1 hy2)
      have HW12 := Lib.hid (And.intro hw1 hw2)
      have HM12 := Lib.hid (And.intro hm1 hm2)
      have d2 := h1.cell hob 2 _ rfl
      have a0 := h1.cell e2 (i * 2) _ qb0
      have a1 := h1.cell e2 (i * 2 + 1) _ qb1
      have f2 := h1.frozen hob 2
      obtain ⟨Ra, HRA⟩ : ∃ z, Hid (updR R1 (20, 0, 0) ⟨54, 3, some ⟨qb, 0, none⟩, 1, 1, [Value.slice p1 M x1, Value.slice p2 M x2, .int .i64 Z2]⟩ = z) := ⟨_, rfl⟩
      have ra0 : Hid (Ra (20, 0, 0) = ⟨54, 3, some ⟨qb, 0, none⟩, 1, 1, [Value.slice p1 M x1, Value.slice p2 M x2, .int .i64 Z2]⟩) := by show _ = _; rw [← HRA.out]; exact updR_eq
      have raN : Hid (∀ t, t ≠ (20, 0, 0) → Ra t = R1 t) := fun t ht => by rw [← HRA.out]; exact updR_ne ht
      have BA : Hid (Qt Ra qb M Z2 va1 wa1 nm1 J) := by
        show Qt _ _ _ _ _ _ _ _
        rw [← HRA.out]
        exact b1.much (by rw [l1]; rfl) (by rw [l2]; rfl) (by have := HZZ.out.1; omega) HZZ.out.2.2.1
      have rab1 := Lib.hid ((raN.out q1 (fun e => HQ1.out.1 (by rw [e]))).trans e1)
      have rab2 := Lib.hid ((raN.out q2 (fun e => HQ2.out.1 (by rw [e]))).trans e2)
      have ra1 := Lib.hid ((raN.out (20, 1, 0) (by simp)).trans l1)
      have ra2 := Lib.hid ((raN.out (20, 2, 0) (by simp)).trans l2)
      have HPa : Hid (Hold base (wr.drew.setCell ⟨qb, 2, none⟩ (.int .i64 Z2)) Ra) := by show Hold _ _ _; rw [← HRA.out]; exact (h1.via (adrew1 wr)).put hob 2 _
      have HPb : Hid (Below base w (wr.drew.setCell ⟨qb, 2, none⟩ (.int .i64 Z2))) := hB1.drew.trans ((h1.via (adrew1 wr)).putB hob 2 _)
      clear h1 b1 hT1 hN1 hE1 hB1 l1 l2 hob e1 e2 qa0 qa1 qb0 qb1 ok1 ok2 hy1 hy2 hw1 hw2 hm1 hm2 HNN hiN HK ob1 ob2
      go_upto_region 3 with fail
      go_cut [] from 19 to 42 (fun wx => Hid (Hold base wx Ra) ∧ Hid (Below base w wx))
      case first =>
        have dr := (H1.out.via (adrew1 wr)).cell OB.out 2 _ rfl
        have fr := (H1.out.via (adrew1 wr)).frozen OB.out 2
        have ar := (H1.out.via (adrew1 wr)).cell A2.out (i * 2) _ QB0.out
        have br := (H1.out.via (adrew1 wr)).cell A2.out (i * 2 + 1) _ QB1.out
        refine region_tail 24 (by kernel_rfl) (by kernel_rfl) ?_
        simp only [List.take_succ_cons, List.take_zero, List.drop_succ_cons, List.drop_zero]
        iterate 24 still_step
        refine wpStill_nil ?_
        go_wp2_with fail
        go_meet
        exact ⟨HPa, HPb⟩
      case rest =>
        obtain ⟨HX3, HY3⟩ := hcut
        obtain ⟨U3, hU3⟩ : ∃ z : World, z = wc := ⟨_, rfl⟩
        subst hU3
        clear d2 a0 a1 f2 w1 w2 w3 w4 w5 HPa HPb
        have k0 := HX3.out.cell ra0.out 2 _ rfl
        by_cases hz : Z2 < 33554432
        · have hzd : decide (Z2 < 33554432) = true := by simpa using hz
          obtain ⟨i4, hi4, hza4, hzb4, hzc4⟩ := info_parts (P := Try.prog) (e := 38) (z := .agg #[.slice none 0 0, .slice none 0 0]) (size := 2) (bytes := 48) (by kernel_rfl)
          have hmx : M + 1 ≤ maxLen := by unfold maxLen; omega
          have hbyt : (M + 1) * 48 ≤ 140737488355328 := by omega
          have HZL := Lib.hid hz
          have HMS : Hid (((M + 1 : Nat) : Int) * 800 ≤ Z2) := by have := HZZ.out.1; show _ ≤ _; push_cast; omega
          have HNa : Hid (Hold base (U3.alloc (.cells #[.slice ta tn tc, .slice ba bn bc] 38)).drew Ra) := (HX3.out.via (abal _ _)).via (adrew1 _)
          have hnews : ∀ (q : Nat) (v : Value), [Value.slice ta tn tc, Value.slice ba bn bc][q]? = some v → (U3.alloc (.cells #[.slice ta tn tc, .slice ba bn bc] 38)).drew.cell? (Addr.add ⟨U3.heap.size, 0, none⟩ q) = some v := by
            intro q v hv
            match q with
            | 0 => simp at hv; subst hv; simp [go_sem]
            | 1 => simp at hv; subst hv; simp [go_sem]
            | q + 2 => simp at hv
          have HNW := Lib.hid hnews
          have k1 := HX3.out.cell ra0.out 0 _ rfl
          have k2 := HX3.out.frozen ra0.out 0
          have k3 := HX3.out.cell rab1.out (i * 2) _ QA0.out
          have k4 := HX3.out.cell rab1.out (i * 2 + 1) _ QA1.out
          have k5 : (U3.alloc (.cells #[.slice ta tn tc, .slice ba bn bc] 38)).cell? ⟨qb, 0, none⟩ = some (Value.slice p1 M x1) := (HX3.out.via (abal _ _)).cell ra0.out 0 _ rfl
          clear hnews s0 hz
          go_upto_region 5 with fail
          go_cut [] from 48 to 60 (fun wx => ∃ b1 d1, Hid (Hold base wx (updR (updR Ra (20, 1, 0) ⟨38, 2, b1, M + 1, d1, ((List.range M).flatMap fun k => [vS4 (va1 k), vA4 (va1 k)]) ++ [Value.slice ta tn tc, Value.slice ba bn bc]⟩) (20, 0, 0) ⟨54, 3, some ⟨qb, 0, none⟩, 1, 1, [Value.slice b1 (M + 1) d1, Value.slice p2 M x2, .int .i64 Z2]⟩)) ∧ Hid (Below base w wx))
          case first =>
            go_region_law (refine Hold.step_append HNa.out rfl _ _ 52 (by rfl) (20, 1, 0) 38 i4 (.agg #[.slice none 0 0, .slice none 0 0]) 2 48 Try.underlying52 hi4 hza4 hzb4 hzc4 rfl (by decide) ra1.out (by rfl) ⟨U3.heap.size, 0, none⟩ 1 1 (by rfl) [Value.slice ta tn tc, Value.slice ba bn bc] rfl HNW.out (by simp [Value.oneCell']) hmx hbyt ?_; intro b9 d9 w9 hH9 hB9; have q1 := hH9.cell ((updR_ne (by simp)).trans ra0.out) 0 _ rfl; have q2 := hH9.frozen ((updR_ne (by simp)).trans ra0.out) 0)
            all_goals go_wp2_with fail
            all_goals go_meet
            all_goals exact ⟨b9, d9, hH9.put ((updR_ne (by simp)).trans ra0.out) 0 _, ((HY3.out.trans (((abal _ _).mono HX3.out.base).drew)).trans hB9).trans (hH9.putB ((updR_ne (by simp)).trans ra0.out) 0 _)⟩
          case rest =>
            obtain ⟨b1, d1, HX4, HY4⟩ := hcut
            obtain ⟨U4, hU4⟩ : ∃ z : World, z = wc := ⟨_, rfl⟩
            subst hU4
            clear k0 k1 k2 k3 k4 k5 HNW HNa
            obtain ⟨Rb, HRB⟩ : ∃ z, Hid (updR (updR Ra (20, 1, 0) ⟨38, 2, b1, M + 1, d1, ((List.range M).flatMap fun k => [vS4 (va1 k), vA4 (va1 k)]) ++ [Value.slice ta tn tc, Value.slice ba bn bc]⟩) (20, 0, 0) ⟨54, 3, some ⟨qb, 0, none⟩, 1, 1, [Value.slice b1 (M + 1) d1, Value.slice p2 M x2, .int .i64 Z2]⟩ = z) := ⟨_, rfl⟩
            rw [HRB.out] at HX4
            have rb0 : Hid (Rb (20, 0, 0) = ⟨54, 3, some ⟨qb, 0, none⟩, 1, 1, [Value.slice b1 (M + 1) d1, Value.slice p2 M x2, .int .i64 Z2]⟩) := by show _ = _; rw [← HRB.out]; exact updR_eq
            have rb1 : Hid (Rb (20, 1, 0) = ⟨38, 2, b1, M + 1, d1, ((List.range M).flatMap fun k => [vS4 (va1 k), vA4 (va1 k)]) ++ [Value.slice ta tn tc, Value.slice ba bn bc]⟩) := by show _ = _; rw [← HRB.out, updR_ne (by simp)]; exact updR_eq
            have rbN : Hid (∀ t, t ≠ (20, 0, 0) → t ≠ (20, 1, 0) → Rb t = R1 t) := fun t h0 h1 => by rw [← HRB.out, updR_ne h0, updR_ne h1]; exact raN.out t h0
            have rb2 := Lib.hid ((rbN.out (20, 2, 0) (by simp) (by simp)).trans LL2.out)
            have rbb2 := Lib.hid ((rbN.out q2 (fun e => HQ2.out.1 (by rw [e])) (fun e => HQ2.out.1 (by rw [e]))).trans A2.out)
            have HNb : Hid (Hold base (U4.alloc (.cells #[.slice ca cn cc, .slice da dn dc] 38)).drew Rb) := (HX4.out.via (abal _ _)).via (adrew1 _)
            have hnews : ∀ (q : Nat) (v : Value), [Value.slice ca cn cc, Value.slice da dn dc][q]? = some v → (U4.alloc (.cells #[.slice ca cn cc, .slice da dn dc] 38)).drew.cell? (Addr.add ⟨U4.heap.size, 0, none⟩ q) = some v := by
              intro q v hv
              match q with
              | 0 => simp at hv; subst hv; simp [go_sem]
              | 1 => simp at hv; subst hv; simp [go_sem]
              | q + 2 => simp at hv
            have HNX := Lib.hid hnews
            have k1 := HX4.out.cell rb0.out 1 _ rfl
            have k2 := HX4.out.frozen rb0.out 1
            have k3 := HX4.out.cell rbb2.out (i * 2) _ QB0.out
            have k4 := HX4.out.cell rbb2.out (i * 2 + 1) _ QB1.out
            have k5 : (U4.alloc (.cells #[.slice ca cn cc, .slice da dn dc] 38)).cell? ⟨qb, 1, none⟩ = some (Value.slice p2 M x2) := (HX4.out.via (abal _ _)).cell rb0.out 1 _ rfl
            clear hnews
            go_upto_region 6 with fail
            go_region_law (refine Hold.step_append HNb.out rfl _ _ 52 (by rfl) (20, 2, 0) 38 i4 (.agg #[.slice none 0 0, .slice none 0 0]) 2 48 Try.underlying52 hi4 hza4 hzb4 hzc4 rfl (by decide) rb2.out (by rfl) ⟨U4.heap.size, 0, none⟩ 1 1 (by rfl) [Value.slice ca cn cc, Value.slice da dn dc] rfl HNX.out (by simp [Value.oneCell']) hmx hbyt ?_; intro b9 d9 w9 hH9 hB9; have q1 := hH9.cell ((updR_ne (by simp)).trans rb0.out) 1 _ rfl; have q2 := hH9.frozen ((updR_ne (by simp)).trans rb0.out) 1)
            all_goals
              have HX5 := hH9.put ((updR_ne (by simp)).trans rb0.out) 1 (.slice b9 (M + 1) d9)
              have HY5 := ((HY4.out.trans (((abal _ (.cells #[.slice ca cn cc, .slice da dn dc] 38)).mono HX4.out.base).drew)).trans hB9).trans (hH9.putB ((updR_ne (by simp)).trans rb0.out) 1 (.slice b9 (M + 1) d9))
              simp only [List.set_cons_zero, List.set_cons_succ] at HX5
              have HX6 := (HX5.move (p, 1, i) (21, 1, M) (fun e => HP.out.2.1 (congrArg Prod.fst e).symm)).move (p, 2, i) (21, 2, M) (fun e => HP.out.2.1 (congrArg Prod.fst e).symm)
              have HF : Hid (KeepI4 base w R qb p J ga mu N (i + 1) (w9.setCell ⟨qb, 1, none⟩ (.slice b9 (M + 1) d9))) := by
                obtain ⟨g3, g4⟩ := HY12.out
                obtain ⟨g5, g6⟩ := HW12.out
                have np : ∀ a k b c, ((p, a, k) : Nat × Nat × Nat) ≠ (20, b, c) := fun a k b c e => HP.out.1 (congrArg Prod.fst e)
                have np1 : ∀ a k b c, ((p, a, k) : Nat × Nat × Nat) ≠ (21, b, c) := fun a k b c e => HP.out.2.1 (congrArg Prod.fst e)
                have np2 : ∀ a k b c, ((22, b, c) : Nat × Nat × Nat) ≠ (p, a, k) := fun a k b c e => HP.out.2.2 (congrArg Prod.fst e).symm
                have pr : ∀ a, R1 (p, a, i) = R (p, a, i) := fun a => E1.out a i (Nat.le_refl _)
                refine ⟨M + 1, Z2, _, _, _, _, HX6, BA.out.more HZL.out HMS.out (Y := ⟨ta, tn, tc, ba, bn, bc, t, b⟩) (Z := ⟨ca, cn, cc, da, dn, dc, t, b⟩) (j := mm i) (b1 := b1) (b2 := b9) (d1 := d1) (d2 := d9) ?_ ?_ ?_ (HMM.out i hlt) ⟨?_, ?_⟩ ⟨?_, ?_⟩ OKY.out.1 OKY.out.2 rfl rfl (fun a k hk => ?_) (fun a k => ?_), fun jj hj => ?_, fun t t0 t1 tp => ?_, fun a jj hj => ?_, HY5, HZZ.out.2.2.2, HZZ.out.2.1⟩
                · rw [updR_ne (by simp), updR_ne (fun e => np 2 i 0 0 e.symm), updR_ne (by simp), updR_ne (fun e => np 1 i 0 0 e.symm), updR_eq]
                · rw [updR_ne (by simp), updR_ne (fun e => np 2 i 1 0 e.symm), updR_ne (by simp), updR_ne (fun e => np 1 i 1 0 e.symm), updR_ne (by simp), updR_ne (by simp), rb1.out]; rfl
                · rw [updR_ne (by simp), updR_ne (fun e => np 2 i 2 0 e.symm), updR_ne (by simp), updR_ne (fun e => np 1 i 2 0 e.symm), updR_ne (by simp), updR_eq]; rfl
                · rw [updR_ne (by simp), updR_ne (fun e => np1 2 i 1 M e.symm), updR_eq, updR_ne (np 1 i 0 0), updR_ne (np 1 i 2 0), rbN.out _ (np 1 i 0 0) (np 1 i 1 0), pr]; exact g3
                · rw [updR_eq, updR_ne (np1 2 i 1 M), updR_ne (by simp), updR_ne (np 2 i 0 0), updR_ne (np 2 i 2 0), rbN.out _ (np 2 i 0 0) (np 2 i 1 0), pr]; exact g4
                · rw [updR_ne (by simp), updR_ne (np2 2 i 1 (mm i)), updR_ne (by simp), updR_ne (np2 1 i 1 (mm i)), updR_ne (by simp), updR_ne (by simp), rbN.out _ (by simp) (by simp), N1.out _ (by simp) (by simp) (fun e => HP.out.2.2 e.symm)]; exact g5
                · rw [updR_ne (by simp), updR_ne (np2 2 i 2 (mm i)), updR_ne (by simp), updR_ne (np2 1 i 2 (mm i)), updR_ne (by simp), updR_ne (by simp), rbN.out _ (by simp) (by simp), N1.out _ (by simp) (by simp) (fun e => HP.out.2.2 e.symm)]; exact g6
                · rw [updR_ne (by simp; omega), updR_ne (fun e => np1 2 i a k e.symm), updR_ne (by simp; omega), updR_ne (fun e => np1 1 i a k e.symm), updR_ne (by simp), updR_ne (by simp), rbN.out _ (by simp) (by simp), raN.out _ (by simp)]
                · rw [updR_ne (by simp), updR_ne (np2 2 i a k), updR_ne (by simp), updR_ne (np2 1 i a k), updR_ne (by simp), updR_ne (by simp), rbN.out _ (by simp) (by simp), raN.out _ (by simp)]
                · by_cases ej : jj = i
                  · subst ej
                    refine ⟨21, M, .inr ⟨rfl, by omega⟩, ?_, ?_⟩
                    · rw [HY.out, updR_ne (by simp), updR_ne (fun e => np1 2 jj 1 M e.symm), updR_eq, updR_ne (np 1 jj 0 0), updR_ne (np 1 jj 2 0), rbN.out _ (np 1 jj 0 0) (np 1 jj 1 0), pr]; exact g3
                    · rw [HY.out, updR_eq, updR_ne (np1 2 jj 1 M), updR_ne (by simp), updR_ne (np 2 jj 0 0), updR_ne (np 2 jj 2 0), rbN.out _ (np 2 jj 0 0) (np 2 jj 1 0), pr]; exact g4
                  · obtain ⟨qq, kk, hqk, m1, m2⟩ := T1.out jj hj
                    refine ⟨qq, kk, hqk.imp id (fun h => ⟨h.1, by omega⟩), ?_, ?_⟩
                    · rw [← m1]
                      rcases hqk with ⟨rfl, rfl⟩ | ⟨rfl, hk⟩
                      · rw [updR_ne (np1 1 kk 2 M), updR_ne (by simp), updR_ne (np1 1 kk 1 M), updR_ne (by simpa using ej), updR_ne (np 1 kk 0 0), updR_ne (np 1 kk 2 0), rbN.out _ (np 1 kk 0 0) (np 1 kk 1 0)]
                      · rw [updR_ne (by simp), updR_ne (fun e => np1 2 i 1 kk e.symm), updR_ne (by simp; omega), updR_ne (fun e => np1 1 i 1 kk e.symm), updR_ne (by simp), updR_ne (by simp), rbN.out _ (by simp) (by simp)]
                    · rw [← m2]
                      rcases hqk with ⟨rfl, rfl⟩ | ⟨rfl, hk⟩
                      · rw [updR_ne (np1 2 kk 2 M), updR_ne (by simpa using ej), updR_ne (np1 2 kk 1 M), updR_ne (by simp), updR_ne (np 2 kk 0 0), updR_ne (np 2 kk 2 0), rbN.out _ (np 2 kk 0 0) (np 2 kk 1 0)]
                      · rw [updR_ne (by simp; omega), updR_ne (fun e => np1 2 i 2 kk e.symm), updR_ne (by simp), updR_ne (fun e => np1 1 i 2 kk e.symm), updR_ne (by simp), updR_ne (by simp), rbN.out _ (by simp) (by simp)]
                · have z1 : ∀ a k, t ≠ (20, a, k) := fun a k e => t0 (by rw [e])
                  have z2 : ∀ a k, t ≠ (21, a, k) := fun a k e => t1 (by rw [e])
                  have z3 : ∀ a k, t ≠ (p, a, k) := fun a k e => tp (by rw [e])
                  rw [updR_ne (z2 _ _), updR_ne (z3 _ _), updR_ne (z2 _ _), updR_ne (z3 _ _), updR_ne (z1 _ _), updR_ne (z1 _ _), rbN.out _ (z1 _ _) (z1 _ _)]
                  exact N1.out t t0 t1 tp
                · rw [updR_ne (np1 a jj 2 M), updR_ne (by simp; omega), updR_ne (np1 a jj 1 M), updR_ne (by simp; omega), updR_ne (np a jj 0 0), updR_ne (np a jj 2 0), rbN.out _ (np a jj 0 0) (np a jj 1 0)]
                  exact E1.out a jj (by omega)
              clear hH9 hB9 HX5 HY5 HX6 k1 k2 k3 k4 k5 q1 q2
              go_wp2
              go_roundw
              case rel => first | exact ⟨i + 1, by omega, by go_num, HF⟩ | ((repeat apply Exists.intro); exact ⟨⟨i + 1, by omega, by go_num, HF⟩, rfl⟩)
              case measure => simp [RowKit.intOf]; omega
        · have hzd : decide (Z2 < 33554432) = false := by simpa using hz
          have HF : Hid (KeepI4 base w R qb p J ga mu N (i + 1) U3) := by
            refine ⟨M, Z2, va1, wa1, nm1, Ra, HX3.out, BA.out, fun jj hj => ?_, fun t t0 t1 tp => (raN.out t (fun e => t0 (by rw [e]))).trans (N1.out t t0 t1 tp), fun a jj hj => (raN.out _ (fun e => HP.out.1 (congrArg Prod.fst e))).trans (E1.out a jj (by omega)), HY3.out, HZZ.out.2.2.2, HZZ.out.2.1⟩
            obtain ⟨qq, kk, hqk, m1, m2⟩ := T1.out jj hj
            refine ⟨qq, kk, hqk, ?_, ?_⟩
            · rw [raN.out _ (by simp)]; exact m1
            · rw [raN.out _ (by simp)]; exact m2
          clear hz
          go_wp2
          go_roundw
          case rel => first | exact ⟨i + 1, by omega, by go_num, HF⟩ | ((repeat apply Exists.intro); exact ⟨⟨i + 1, by omega, by go_num, HF⟩, rfl⟩)
          case measure => simp [RowKit.intOf]; omega
    · have hge : (N : Int) ≤ i := by omega
      obtain rfl : i = N := by omega
      have HF : Hid (KeepP4 base w R qb p J ga mu i wr) := ⟨M, z, va1, wa1, nm1, R1, h1, b1, hT1, hN1, hB1, hm1, hm2⟩
      clear h1 b1 hT1 hN1 hE1 hB1 hm1 hm2 HK
      go_wp2
      go_end0
      exact ⟨rfl, HF.out⟩
end
end Go.Proofs.Ytoippfoeghjdoaa

/- The shelf of layer 3 (abacuslaw3): arrays left as they were answered. The shelf of layer 3 (abacuslaw3): Keep. The shelf of layer 3 (abacuslaw3): Ends. -/
import Derived.Test.YtdedbfbkakofgaaAtomFreshM11
import Derived.Test.YtdedbfbkakofgaaAtomFreshM12
namespace Go.Proofs.Ytdedbfbkakofgaa
open Go.RowKit Go.Lib
set_option linter.unusedVariables false
set_option linter.unusedSimpArgs false
attribute [local go_sem] alloc_drewN setCell_drewN
theorem pairs_at (f g : Nat → Value) : ∀ (n k : Nat), k < n → ((List.range n).flatMap fun k => [f k, g k])[k * 2]? = some (f k) ∧ ((List.range n).flatMap fun k => [f k, g k])[k * 2 + 1]? = some (g k)
  | 0, k, h => absurd h (by omega)
  | n + 1, k, h => by
    have hl : ∀ n : Nat, ((List.range n).flatMap fun k => [f k, g k]).length = n * 2 := fun n => by
      induction n with
      | zero => rfl
      | succ n ih => rw [List.range_succ, List.flatMap_append, List.length_append, ih]; simp; omega
    rw [List.range_succ, List.flatMap_append]
    by_cases e : k = n
    · subst e
      rw [List.getElem?_append_right (by rw [hl]; omega), List.getElem?_append_right (by rw [hl]; omega), hl]
      simp
    · have h' := pairs_at f g n k (by omega)
      rw [List.getElem?_append_left (by rw [hl]; omega), List.getElem?_append_left (by rw [hl]; omega)]
      exact h'
/-- What an array's numbers are good for. -/
structure ArOk (A : Ar) : Prop where
  b1 : A.sn * 8 ≤ 140737488351232
  b2 : A.an * 8 ≤ 140737488351232
  r1 : ∀ i, -9223372036854775808 ≤ A.s.getD i 0 ∧ A.s.getD i 0 ≤ 9223372036854775807
  r2 : ∀ i, -9223372036854775808 ≤ A.a.getD i 0 ∧ A.a.getD i 0 ≤ 9223372036854775807
theorem Ar.Is.ok {A : Ar} {w : World} (h : A.Is w) : ArOk A := ⟨h.shp.big, h.ats.big, h.shp.rng, h.ats.rng⟩
def vS (A : Ar) : Value := .slice A.sa A.sn A.sc
def vA (A : Ar) : Value := .slice A.aa A.an A.ac
section
variable {base : Nat} {w : World} {R : Nat × Nat × Nat → Rw} {o sb : Nat}
theorem Hold.isA (h : Hold base w R) {t1 t2 : Nat × Nat × Nat} {A : Ar} (e1 : R t1 = rowS A) (e2 : R t2 = rowA A) (ok : ArOk A) : A.Is w := ⟨h.ls e1 ok.b1 ok.r1, h.ls e2 ok.b2 ok.r2⟩
/-- The rows of tags that begin with o are a shelf of K arrays and of what they were. -/
structure Sh (R : Nat × Nat × Nat → Rw) (o sb K : Nat) (sz : Int) (va wa : Nat → Ar) : Prop where
  obj : R (o, 0, 0) = ⟨66, 3, some ⟨sb, 0, none⟩, 1, 1, [(R (o, 1, 0)).v, (R (o, 2, 0)).v, .int .i64 sz]⟩
  l1 : ∃ ao c, R (o, 1, 0) = ⟨55, 2, ao, K, c, (List.range K).flatMap fun k => [vS (va k), vA (va k)]⟩
  l2 : ∃ ao c, R (o, 2, 0) = ⟨55, 2, ao, K, c, (List.range K).flatMap fun k => [vS (wa k), vA (wa k)]⟩
  e3 : ∀ k, k < K → R (o, 3, k) = rowS (va k)
  e4 : ∀ k, k < K → R (o, 4, k) = rowA (va k)
  e5 : ∀ k, k < K → R (o, 5, k) = rowS (wa k)
  e6 : ∀ k, k < K → R (o, 6, k) = rowA (wa k)
  ok : ∀ k, k < K → ArOk (va k) ∧ ArOk (wa k) ∧ (va k).s = (wa k).s ∧ (va k).a = (wa k).a
  s0 : (K : Int) * 800 ≤ sz
  s1 : sz ≤ 1152921504606846976
  kb : K ≤ 41944
theorem Sh.congr {R' : Nat × Nat × Nat → Rw} {K : Nat} {sz : Int} {va wa : Nat → Ar} (h : Sh R o sb K sz va wa) (hR : ∀ t, t.1 = o → R' t = R t) : Sh R' o sb K sz va wa := by
  refine ⟨?_, ?_, ?_, ?_, ?_, ?_, ?_, h.ok, h.s0, h.s1, h.kb⟩
  · rw [hR _ rfl, hR _ rfl, hR _ rfl]; exact h.obj
  · rw [hR _ rfl]; exact h.l1
  · rw [hR _ rfl]; exact h.l2
  · intro k hk; rw [hR _ rfl]; exact h.e3 k hk
  · intro k hk; rw [hR _ rfl]; exact h.e4 k hk
  · intro k hk; rw [hR _ rfl]; exact h.e5 k hk
  · intro k hk; rw [hR _ rfl]; exact h.e6 k hk
/-- A shelf with an array more. -/
theorem Sh.more {K : Nat} {sz sz' : Int} {va wa : Nat → Ar} {R' : Nat × Nat × Nat → Rw} (B : Sh R o sb K sz va wa) (hz1 : sz < 33554432) (hz : sz + 800 ≤ sz') (hz2 : sz' ≤ 1152921504606846976) {Y Z : Ar}
    {b1 b2 : Option Addr} {d1 d2 : Nat}
    (e0 : R' (o, 0, 0) = ⟨66, 3, some ⟨sb, 0, none⟩, 1, 1, [.slice b1 (K + 1) d1, .slice b2 (K + 1) d2, .int .i64 sz']⟩)
    (e1 : R' (o, 1, 0) = ⟨55, 2, b1, K + 1, d1, ((List.range K).flatMap fun k => [vS (va k), vA (va k)]) ++ [vS Y, vA Y]⟩)
    (e2 : R' (o, 2, 0) = ⟨55, 2, b2, K + 1, d2, ((List.range K).flatMap fun k => [vS (wa k), vA (wa k)]) ++ [vS Z, vA Z]⟩)
    (e3 : R' (o, 3, K) = rowS Y) (e4 : R' (o, 4, K) = rowA Y) (e5 : R' (o, 5, K) = rowS Z) (e6 : R' (o, 6, K) = rowA Z) (hy : ArOk Y) (hz3 : ArOk Z) (hs : Y.s = Z.s) (ha : Y.a = Z.a)
    (h : ∀ i k, 3 ≤ i → k < K → R' (o, i, k) = R (o, i, k)) : Sh R' o sb (K + 1) sz' (fun k => if k = K then Y else va k) (fun k => if k = K then Z else wa k) := by
  have s0 := B.s0
  have kb := B.kb
  have key : ∀ (f : Nat → Ar) (Y : Ar), ((List.range K).flatMap fun k => [vS (f k), vA (f k)]) ++ [vS Y, vA Y] = (List.range (K + 1)).flatMap fun k => [vS (if k = K then Y else f k), vA (if k = K then Y else f k)] := fun f Y => by
    rw [List.range_succ, List.flatMap_append]
    congr 1
    · rw [List.flatMap_def, List.flatMap_def]
      congr 1
      exact List.map_congr_left fun k hk => by
        have : k ≠ K := by have := List.mem_range.1 hk; omega
        simp [this]
    · simp
  refine ⟨by rw [e0, e1, e2]; rfl, ⟨b1, d1, by rw [e1, key]⟩, ⟨b2, d2, by rw [e2, key]⟩, fun k hk => ?_, fun k hk => ?_, fun k hk => ?_, fun k hk => ?_, fun k hk => ?_, by push_cast; omega, hz2, by omega⟩
  all_goals by_cases e : k = K
  · subst e; simpa using e3
  · rw [h 3 k (by omega) (by omega)]; simp only [e, if_false]; exact B.e3 k (by omega)
  · subst e; simpa using e4
  · rw [h 4 k (by omega) (by omega)]; simp only [e, if_false]; exact B.e4 k (by omega)
  · subst e; simpa using e5
  · rw [h 5 k (by omega) (by omega)]; simp only [e, if_false]; exact B.e5 k (by omega)
  · subst e; simpa using e6
  · rw [h 6 k (by omega) (by omega)]; simp only [e, if_false]; exact B.e6 k (by omega)
  · subst e; simp; exact ⟨hy, hz3, hs, ha⟩
  · simp only [e, if_false]; exact B.ok k (by omega)
end
end Go.Proofs.Ytdedbfbkakofgaa

namespace Go.Proofs.Ytdedbfbkakofgaa
open Go.RowKit Go.Lib
set_option linter.unusedVariables false
set_option linter.unusedSimpArgs false
attribute [local go_sem] alloc_drewN setCell_drewN
/-- A call of a Go function, as a step of a region that draws its order. -/
theorem step_fn {P : Program} {ops : Array Oper} {o : Oper} {a : Act} {w : World} {K : Act → World → Prop} {Q : Exit → Act → World → Prop} {E : Prop} (hgd : o.guard = none) {f : FuncId} (vals : Array Value)
    (hrun : (execOp a.eval o).run P w = .ok (.enter f vals) w) {Post : Ending → World → Prop} (hC : Calls P f vals w Post) (hret : ∀ e w', Post e w' → ∃ v, e = .returned v) (h : ∀ v w', Post (.returned v) w' → K (a.put o.dst v) w') :
    if Region.wanted o (yielded ops a.tmps) = true then Oper.wp P o a w K Q else E := by
  have hw : Region.wanted o (yielded ops a.tmps) = true := by simp [Region.wanted, hgd]
  rw [if_pos hw]
  unfold Oper.wp
  rw [hrun, Oper.upon_enter]
  refine hC.mono fun e w' hp => ?_
  obtain ⟨v, rfl⟩ := hret e w' hp
  exact h v w' hp
theorem news2 (w : World) (T : TypeId) (x y : Value) : ∀ (q : Nat) (v : Value), [x, y][q]? = some v → (w.alloc (.cells #[x, y] T)).cell? (Addr.add ⟨w.heap.size, 0, none⟩ q) = some v := by
  intro q v hv
  match q with
  | 0 => simp at hv; subst hv; simp [go_sem]
  | 1 => simp at hv; subst hv; simp [go_sem]
  | q + 2 => simp at hv
section
variable {base : Nat} {w : World} {R : Nat × Nat × Nat → Rw} {o sb : Nat}
/-- Behind i of the arrays that are kept. -/
def KeepI (base : Nat) (w : World) (R : Nat × Nat × Nat → Rw) (o sb K n : Nat) (ys : Nat → Ar) (i : Nat) (wx : World) : Prop :=
  ∃ (M : Nat) (sz' : Int) (R' : Nat × Nat × Nat → Rw) (va wa : Nat → Ar), M = K + i ∧ Hold base wx R' ∧ Sh R' o sb M sz' va wa ∧ (∀ t, t.1 ≠ o → R' t = R t) ∧ R' (o, 0, 1) = R (o, 0, 1) ∧
    (∀ j, j < n → R' (o, 3, K + j) = rowS (ys j) ∧ R' (o, 4, K + j) = rowA (ys j)) ∧ Below base w wx
set_option maxRecDepth 100000 in
set_option maxHeartbeats 6400000 in
theorem keep_any {K : Nat} {sz : Int} {va wa ys : Nat → Ar} {n ab : Nat} (H : Hold base w R) (B : Sh R o sb K sz va wa) (hn : n ≤ 1000)
    (hab : R (o, 0, 1) = ⟨55, 2, some ⟨ab, 0, none⟩, n, n, (List.range n).flatMap fun k => [vS (ys k), vA (ys k)]⟩)
    (hy : ∀ j, j < n → R (o, 3, K + j) = rowS (ys j) ∧ R (o, 4, K + j) = rowA (ys j)) (hok : ∀ j, j < n → ArOk (ys j)) :
    Calls Try.prog 25 #[.pointer (some ⟨sb, 0, none⟩), .slice (some ⟨ab, 0, none⟩) n n] w (fun e w' => e = .returned (.tuple #[]) ∧ ∃ i, i ≤ n ∧ KeepI base w R o sb K n ys i w') := by
  have H0 : Hid (KeepI base w R o sb K n ys 0 w) := ⟨K, sz, R, va, wa, rfl, H, B, fun _ _ => rfl, rfl, hy, Below.refl _ _⟩
  have HAB := Lib.hid hab
  have HOK := Lib.hid hok
  clear H B hab hy hok
  go_enter Try.func25, Try.ntmps25
  go_wp2_with fail
  go_loopw [4] (fun v4 wx => ∃ i : Nat, i ≤ n ∧ v4 = .int .i64 i ∧ Hid (KeepI base w R o sb K n ys i wx)) (fun v4 _ => n - (RowKit.intOf v4).toNat)
  case atStart => exact ⟨0, Nat.zero_le _, rfl, H0⟩
  case round =>
    clear H0
    obtain ⟨i, hi, rfl, HK⟩ := hrel
    obtain ⟨M, z, R1, va1, wa1, hM, h1, b1, hN1, hA1, hY1, hL1⟩ := HK.out
    obtain ⟨p1, x1, l1⟩ := b1.l1
    obtain ⟨p2, x2, l2⟩ := b1.l2
    have hob := b1.obj
    rw [l1, l2] at hob
    simp only [Rw.v] at hob
    have d2 : wr.cell? ⟨sb, 2, none⟩ = some (.int .i64 z) := h1.cell hob 2 _ rfl
    have s0 := b1.s0
    have kb := b1.kb
    have H1 := Lib.hid h1
    have B1 := Lib.hid b1
    have N1 := Lib.hid hN1
    have A1 := Lib.hid (hA1.trans HAB.out)
    have HA1 := Lib.hid hA1
    have Y1 := Lib.hid hY1
    have L1 := Lib.hid hL1
    have LL1 := Lib.hid l1
    have LL2 := Lib.hid l2
    have OB := Lib.hid hob
    have HMK := Lib.hid hM
    clear hM h1 b1 hN1 hA1 hY1 hL1 l1 l2 hob
    by_cases hlt : i < n
    · have hlt' : (i : Int) < n := by omega
      by_cases hz : z < 33554432
      · obtain ⟨hy3, hy4⟩ := Y1.out i hlt
        have hok := HOK.out i hlt
        obtain ⟨q0, q1⟩ := pairs_at (fun k => vS (ys k)) (fun k => vA (ys k)) n i hlt
        obtain ⟨Y, HY⟩ : ∃ Y, Hid (ys i = Y) := ⟨_, rfl⟩
        simp only [HY.out] at hy3 hy4 hok q0 q1
        have HQ0 := Lib.hid q0
        have HQ1 := Lib.hid q1
        obtain ⟨ta, tn, tc, ba, bn, bc, t, b⟩ := Y
        simp only [vS, vA] at HQ0 HQ1
        have a0 := H1.out.cell A1.out (i * 2) _ HQ0.out
        have a1 := H1.out.cell A1.out (i * 2 + 1) _ HQ1.out
        have f2 := H1.out.frozen OB.out 2
        obtain ⟨ob1, ob2, -, -⟩ := id hok
        simp only at ob1 ob2
        have w1 : IntKind.i64.wrap (z + 800) = z + 800 := IntWalk.i64_in _ (by omega)
        have w2 : IntKind.i64.wrap (16 * (tn : Int)) = 16 * tn := IntWalk.i64_in _ (by omega)
        have w3 : IntKind.i64.wrap (16 * (bn : Int)) = 16 * bn := IntWalk.i64_in _ (by omega)
        have w4 : IntKind.i64.wrap (z + 800 + 16 * (tn : Int)) = z + 800 + 16 * tn := IntWalk.i64_in _ (by omega)
        obtain ⟨Z2, HZ2⟩ : ∃ q, Hid (z + 800 + 16 * (tn : Int) + 16 * bn = q) := ⟨_, rfl⟩
        have w5 : IntKind.i64.wrap (z + 800 + 16 * (tn : Int) + 16 * bn) = Z2 := by rw [← HZ2.out]; exact IntWalk.i64_in _ (by omega)
        have HZ : Hid (z < 33554432 ∧ z + 800 ≤ Z2 ∧ Z2 ≤ 1152921504606846976) := by rw [← HZ2.out]; exact ⟨hz, by omega, by omega⟩
        have OKY := Lib.hid hok
        clear hy3 hy4 hok q0 q1 ob1 ob2
        obtain ⟨Ra, HRA⟩ : ∃ z, Hid (updR R1 (o, 0, 0) ⟨66, 3, some ⟨sb, 0, none⟩, 1, 1, [Value.slice p1 M x1, Value.slice p2 M x2, .int .i64 Z2]⟩ = z) := ⟨_, rfl⟩
        have ra0 : Hid (Ra (o, 0, 0) = ⟨66, 3, some ⟨sb, 0, none⟩, 1, 1, [Value.slice p1 M x1, Value.slice p2 M x2, .int .i64 Z2]⟩) := by show _ = _; rw [← HRA.out]; exact updR_eq
        have raN : Hid (∀ t, t ≠ (o, 0, 0) → Ra t = R1 t) := fun t ht => by rw [← HRA.out]; exact updR_ne ht
        have rab := Lib.hid ((raN.out (o, 0, 1) (by simp)).trans A1.out)
        have ra1 := Lib.hid ((raN.out (o, 1, 0) (by simp)).trans LL1.out)
        have ra2 := Lib.hid ((raN.out (o, 2, 0) (by simp)).trans LL2.out)
        have HPa : Hid (Hold base (wr.drew.setCell ⟨sb, 2, none⟩ (.int .i64 Z2)) Ra) := by show Hold _ _ _; rw [← HRA.out]; exact (H1.out.via (adrew1 wr)).put OB.out 2 _
        have HPb : Hid (Below base w (wr.drew.setCell ⟨sb, 2, none⟩ (.int .i64 Z2))) := L1.out.drew.trans ((H1.out.via (adrew1 wr)).putB OB.out 2 _)
        go_upto_region 3 with fail
        go_cut [] from 18 to 41 (fun wx => Hid (Hold base wx Ra) ∧ Hid (Below base w wx))
        case first =>
          have dr := (H1.out.via (adrew1 wr)).cell OB.out 2 _ rfl
          have fr := (H1.out.via (adrew1 wr)).frozen OB.out 2
          have ar := (H1.out.via (adrew1 wr)).cell A1.out (i * 2) _ HQ0.out
          have br := (H1.out.via (adrew1 wr)).cell A1.out (i * 2 + 1) _ HQ1.out
          refine region_tail 24 (by kernel_rfl) (by kernel_rfl) ?_
          simp only [List.take_succ_cons, List.take_zero, List.drop_succ_cons, List.drop_zero]
          iterate 24 still_step
          refine wpStill_nil ?_
          go_wp2_with fail
          go_meet
          exact ⟨HPa, HPb⟩
        case rest =>
          obtain ⟨HX3, HY3⟩ := hcut
          obtain ⟨U3, hU3⟩ : ∃ z : World, z = wc := ⟨_, rfl⟩
          subst hU3
          clear d2 a0 a1 f2 w1 w2 w3 w4 w5 HPa HPb
          obtain ⟨i4, hi4, hza4, hzb4, hzc4⟩ := info_parts (P := Try.prog) (e := 55) (z := .agg #[.slice none 0 0, .slice none 0 0]) (size := 2) (bytes := 48) (by kernel_rfl)
          have hmx : M + 1 ≤ maxLen := by unfold maxLen; omega
          have hbyt : (M + 1) * 48 ≤ 140737488355328 := by omega
          have HN : Hid (Hold base (U3.alloc (.cells #[.slice ta tn tc, .slice ba bn bc] 55)).drew Ra) := (HX3.out.via (abal _ _)).via (adrew1 _)
          have hnews : ∀ (q : Nat) (v : Value), [Value.slice ta tn tc, Value.slice ba bn bc][q]? = some v → (U3.alloc (.cells #[.slice ta tn tc, .slice ba bn bc] 55)).drew.cell? (Addr.add ⟨U3.heap.size, 0, none⟩ q) = some v := by
            intro q v hv
            match q with
            | 0 => simp at hv; subst hv; simp [go_sem]
            | 1 => simp at hv; subst hv; simp [go_sem]
            | q + 2 => simp at hv
          have HNW := Lib.hid hnews
          have k0 := HX3.out.cell ra0.out 0 _ rfl
          have k1 := HX3.out.frozen ra0.out 0
          have k2 := HX3.out.cell rab.out (i * 2) _ HQ0.out
          have k3 := HX3.out.cell rab.out (i * 2 + 1) _ HQ1.out
          have k4 : (U3.alloc (.cells #[.slice ta tn tc, .slice ba bn bc] 55)).cell? ⟨sb, 0, none⟩ = some (Value.slice p1 M x1) := (HX3.out.via (abal _ _)).cell ra0.out 0 _ rfl
          clear hnews
          go_upto_region 4 with fail
          go_cut [] from 42 to 54 (fun wx => ∃ b1 d1, Hid (Hold base wx (updR (updR Ra (o, 1, 0) ⟨55, 2, b1, M + 1, d1, ((List.range M).flatMap fun k => [vS (va1 k), vA (va1 k)]) ++ [Value.slice ta tn tc, Value.slice ba bn bc]⟩) (o, 0, 0) ⟨66, 3, some ⟨sb, 0, none⟩, 1, 1, [Value.slice b1 (M + 1) d1, Value.slice p2 M x2, .int .i64 Z2]⟩)) ∧ Hid (Below base w wx))
          case first =>
            go_region_law (refine Hold.step_append HN.out rfl _ _ 64 (by rfl) (o, 1, 0) 55 i4 (.agg #[.slice none 0 0, .slice none 0 0]) 2 48 Try.underlying64 hi4 hza4 hzb4 hzc4 rfl (by decide) ra1.out (by rfl) ⟨U3.heap.size, 0, none⟩ 1 1 (by rfl) [Value.slice ta tn tc, Value.slice ba bn bc] rfl HNW.out (by simp [Value.oneCell']) hmx hbyt ?_; intro b9 d9 w9 hH9 hB9; have q1 := hH9.cell ((updR_ne (by simp)).trans ra0.out) 0 _ rfl; have q2 := hH9.frozen ((updR_ne (by simp)).trans ra0.out) 0)
            all_goals go_wp2_with fail
            all_goals go_meet
            all_goals exact ⟨b9, d9, hH9.put ((updR_ne (by simp)).trans ra0.out) 0 _, ((HY3.out.trans (((abal _ _).mono HX3.out.base).drew)).trans hB9).trans (hH9.putB ((updR_ne (by simp)).trans ra0.out) 0 _)⟩
          case rest =>
            obtain ⟨b1, d1, HX4, HY4⟩ := hcut
            obtain ⟨U4, hU4⟩ : ∃ z : World, z = wc := ⟨_, rfl⟩
            subst hU4
            clear k0 k1 k2 k3 k4 HNW HN
            obtain ⟨Rb, HRB⟩ : ∃ z, Hid (updR (updR Ra (o, 1, 0) ⟨55, 2, b1, M + 1, d1, ((List.range M).flatMap fun k => [vS (va1 k), vA (va1 k)]) ++ [Value.slice ta tn tc, Value.slice ba bn bc]⟩) (o, 0, 0) ⟨66, 3, some ⟨sb, 0, none⟩, 1, 1, [Value.slice b1 (M + 1) d1, Value.slice p2 M x2, .int .i64 Z2]⟩ = z) := ⟨_, rfl⟩
            rw [HRB.out] at HX4
            have rb0 : Hid (Rb (o, 0, 0) = ⟨66, 3, some ⟨sb, 0, none⟩, 1, 1, [Value.slice b1 (M + 1) d1, Value.slice p2 M x2, .int .i64 Z2]⟩) := by show _ = _; rw [← HRB.out]; exact updR_eq
            have rb1 : Hid (Rb (o, 1, 0) = ⟨55, 2, b1, M + 1, d1, ((List.range M).flatMap fun k => [vS (va1 k), vA (va1 k)]) ++ [Value.slice ta tn tc, Value.slice ba bn bc]⟩) := by show _ = _; rw [← HRB.out, updR_ne (by simp)]; exact updR_eq
            have rbN : Hid (∀ t, t ≠ (o, 0, 0) → t ≠ (o, 1, 0) → Rb t = R1 t) := fun t h0 h1 => by rw [← HRB.out, updR_ne h0, updR_ne h1]; exact raN.out t h0
            have rbb := Lib.hid ((rbN.out (o, 0, 1) (by simp) (by simp)).trans A1.out)
            have rb2 := Lib.hid ((rbN.out (o, 2, 0) (by simp) (by simp)).trans LL2.out)
            have rb3 := Lib.hid ((rbN.out (o, 3, M) (by simp) (by simp)))
            have rb4 := Lib.hid ((rbN.out (o, 4, M) (by simp) (by simp)))
            have ey : R1 (o, 3, M) = rowS ⟨ta, tn, tc, ba, bn, bc, t, b⟩ ∧ R1 (o, 4, M) = rowA ⟨ta, tn, tc, ba, bn, bc, t, b⟩ := by
              have h := Y1.out i hlt
              rw [HY.out, ← HMK.out] at h
              exact h
            have EY := Lib.hid ey
            clear ey
            have CO := Lib.hid (own3_any (A := ⟨ta, tn, tc, ba, bn, bc, t, b⟩) ((HX4.out.via (adrew1 U4)).isA (rb3.out.trans EY.out.1) (rb4.out.trans EY.out.2) OKY.out))
            simp only [Ar.v] at CO
            have k0 := HX4.out.cell rb0.out 1 _ rfl
            have k1 := HX4.out.frozen rb0.out 1
            have k2 := HX4.out.cell rbb.out (i * 2) _ HQ0.out
            have k3 := HX4.out.cell rbb.out (i * 2 + 1) _ HQ1.out
            go_upto_region 5 with fail
            go_region_law (first
              | (refine Hold.step_append (hH5.via (abal w5 (.cells #[.slice ca cn cc, .slice da dn dc] 55))) rfl _ _ 64 (by rfl) (o, 2, 0) 55 i4 (.agg #[.slice none 0 0, .slice none 0 0]) 2 48 Try.underlying64 hi4 hza4 hzb4 hzc4 rfl (by decide) ((updR_ne (by simp)).trans ((updR_ne (by simp)).trans rb2.out)) (by rfl) ⟨w5.heap.size, 0, none⟩ 1 1 (by rfl) [Value.slice ca cn cc, Value.slice da dn dc] rfl (news2 w5 55 _ _) (by simp [Value.oneCell']) hmx hbyt ?_; intro b9 d9 w9 hH9 hB9; have e09 := (updR_ne (R := updR (updR Rb (o, 5, M) (rowS ⟨ca, cn, cc, da, dn, dc, t, b⟩)) (o, 6, M) (rowA ⟨ca, cn, cc, da, dn, dc, t, b⟩)) (t := (o, 2, 0)) (r := ⟨55, 2, b9, M + 1, d9, ((List.range M).flatMap fun k => [vS (wa1 k), vA (wa1 k)]) ++ [Value.slice ca cn cc, Value.slice da dn dc]⟩) (s := (o, 0, 0)) (by simp)).trans e05; have q1 := hH9.cell e09 1 _ rfl; have q2 := hH9.frozen e09 1)
              | (go_simp; go_at_call 23; refine CO.out.mono ?_; rintro e5 w5 ⟨⟨ca, cn, cc, da, dn, dc, t5, b5⟩, rfl, hI5, hs5, ha5, hO5, hb5⟩; dsimp only; simp only at hs5 ha5; have hs5' := hs5.symm; have ha5' := ha5.symm; subst hs5' ha5'; simp only [Ar.v]; have hH5 := (HX4.out.via (adrew1 U4)).made hO5 hb5 (o, 5, M) (o, 6, M) (by simp); have e05 := (updR_ne (R := updR Rb (o, 5, M) (rowS ⟨ca, cn, cc, da, dn, dc, t, b⟩)) (t := (o, 6, M)) (r := rowA ⟨ca, cn, cc, da, dn, dc, t, b⟩) (s := (o, 0, 0)) (by simp)).trans ((updR_ne (by simp)).trans rb0.out); have m1 := hH5.cell e05 1 _ rfl; have m2 := (hH5.via (abal w5 (.cells #[.slice ca cn cc, .slice da dn dc] 55))).cell e05 1 _ rfl))
            all_goals
              have HXe := hH9.put e09 1 (.slice b9 (M + 1) d9)
              have HYe : Below base w (w9.setCell ⟨sb, 1, none⟩ (.slice b9 (M + 1) d9)) := ((((HY4.out.drew.trans (hb5.mono (HX4.out.via (adrew1 U4)).base)).trans ((abal _ _).mono hH5.base)).trans hB9).trans (hH9.putB e09 1 _))
              simp only [List.set_cons_succ, List.set_cons_zero] at HXe
              obtain ⟨Re, HRE⟩ : ∃ z, Hid (updR (updR (updR (updR Rb (o, 5, M) (rowS ⟨ca, cn, cc, da, dn, dc, t, b⟩)) (o, 6, M) (rowA ⟨ca, cn, cc, da, dn, dc, t, b⟩)) (o, 2, 0) ⟨55, 2, b9, M + 1, d9, ((List.range M).flatMap fun k => [vS (wa1 k), vA (wa1 k)]) ++ [Value.slice ca cn cc, Value.slice da dn dc]⟩) (o, 0, 0) ⟨66, 3, some ⟨sb, 0, none⟩, 1, 1, [Value.slice b1 (M + 1) d1, Value.slice b9 (M + 1) d9, .int .i64 Z2]⟩ = z) := ⟨_, rfl⟩
              rw [HRE.out] at HXe
              have reN : ∀ t, t ≠ (o, 0, 0) → t ≠ (o, 2, 0) → t ≠ (o, 5, M) → t ≠ (o, 6, M) → Re t = Rb t := fun t h0 h2 h5 h6 => by rw [← HRE.out, updR_ne h0, updR_ne h2, updR_ne h6, updR_ne h5]
              have reR : ∀ t, t ≠ (o, 0, 0) → t ≠ (o, 1, 0) → t ≠ (o, 2, 0) → t ≠ (o, 5, M) → t ≠ (o, 6, M) → Re t = R1 t := fun t h0 h1 h2 h5 h6 => (reN t h0 h2 h5 h6).trans (rbN.out t h0 h1)
              have re0 : Re (o, 0, 0) = ⟨66, 3, some ⟨sb, 0, none⟩, 1, 1, [Value.slice b1 (M + 1) d1, Value.slice b9 (M + 1) d9, .int .i64 Z2]⟩ := by rw [← HRE.out]; exact updR_eq
              have re2 : Re (o, 2, 0) = ⟨55, 2, b9, M + 1, d9, ((List.range M).flatMap fun k => [vS (wa1 k), vA (wa1 k)]) ++ [Value.slice ca cn cc, Value.slice da dn dc]⟩ := by rw [← HRE.out, updR_ne (by simp)]; exact updR_eq
              have re5 : Re (o, 5, M) = rowS ⟨ca, cn, cc, da, dn, dc, t, b⟩ := by rw [← HRE.out, updR_ne (by simp), updR_ne (by simp), updR_ne (by simp)]; exact updR_eq
              have re6 : Re (o, 6, M) = rowA ⟨ca, cn, cc, da, dn, dc, t, b⟩ := by rw [← HRE.out, updR_ne (by simp), updR_ne (by simp)]; exact updR_eq
              have HK2 : Hid (KeepI base w R o sb K n ys (i + 1) (w9.setCell ⟨sb, 1, none⟩ (.slice b9 (M + 1) d9))) := by
                have hm := HMK.out
                refine ⟨M + 1, Z2, Re, _, _, by omega, HXe, B1.out.more (Y := ⟨ta, tn, tc, ba, bn, bc, t, b⟩) (Z := ⟨ca, cn, cc, da, dn, dc, t, b⟩) HZ.out.1 HZ.out.2.1 HZ.out.2.2 re0 ((reN (o, 1, 0) (by simp) (by simp) (by simp) (by simp)).trans rb1.out) re2 ((reR (o, 3, M) (by simp) (by simp) (by simp) (by simp) (by simp)).trans EY.out.1) ((reR (o, 4, M) (by simp) (by simp) (by simp) (by simp) (by simp)).trans EY.out.2) re5 re6 OKY.out hI5.ok rfl rfl (fun i k hi hk => reR _ (by simp; omega) (by simp; omega) (by simp; omega) (by simp; omega) (by simp; omega)), fun t ht => (reR t (fun e => ht (by rw [e])) (fun e => ht (by rw [e])) (fun e => ht (by rw [e])) (fun e => ht (by rw [e])) (fun e => ht (by rw [e]))).trans (N1.out t ht), (reR _ (by simp) (by simp) (by simp) (by simp) (by simp)).trans HA1.out, fun j hj => ?_, HYe⟩
                obtain ⟨g3, g4⟩ := Y1.out j hj
                exact ⟨(reR _ (by simp) (by simp) (by simp) (by simp) (by simp)).trans g3, (reR _ (by simp) (by simp) (by simp) (by simp) (by simp)).trans g4⟩
              clear HXe HYe reN reR re0 re2 re5 re6 hH5 e05 m1 m2 hH9 hB9 e09 q1 q2 k0 k1 k2 k3 hO5 hb5 hI5
              go_wp2
              go_roundw
              case rel => first | exact ⟨i + 1, by omega, by go_num, HK2⟩ | ((repeat apply Exists.intro); exact ⟨⟨i + 1, by omega, by go_num, HK2⟩, rfl⟩)
              case measure => simp [RowKit.intOf] <;> omega
      · have hz' : decide (z < 33554432) = false := by simpa using hz
        go_wp2
        go_end0
        exact ⟨rfl, i, hi, HK.out⟩
    · have hge : (n : Int) ≤ i := by omega
      go_wp2
      go_end0
      exact ⟨rfl, i, hi, HK.out⟩
end
end Go.Proofs.Ytdedbfbkakofgaa

namespace Go.Proofs.Ytdedbfbkakofgaa
open Go.RowKit Go.Lib
set_option linter.unusedVariables false
set_option linter.unusedSimpArgs false
attribute [local go_sem] alloc_drewN setCell_drewN
section
variable {base : Nat} {w : World} {R : Nat × Nat × Nat → Rw} {o sb : Nat}
theorem Bk.congr' {R' : Nat × Nat × Nat → Rw} {bb K : Nat} {sz : Int} (h : Bk R o bb K sz) (h0 : R' (o, 0, 0) = R (o, 0, 0)) (h1 : R' (o, 1, 0) = R (o, 1, 0)) (h2 : R' (o, 2, 0) = R (o, 2, 0))
    (h3 : ∀ k, k < K → R' (o, 3, k) = R (o, 3, k)) (h4 : ∀ k, k < K → R' (o, 4, k) = R (o, 4, k)) : Bk R' o bb K sz := by
  refine ⟨?_, ?_, ?_, ?_, ?_, h.s0, h.s1, h.kb⟩
  · rw [h0, h1, h2]; exact h.obj
  · obtain ⟨ao, c, e⟩ := h.l1
    refine ⟨ao, c, ?_⟩
    rw [h1, e]
    congr 1
    exact List.map_congr_left fun k hk => by rw [h3 k (List.mem_range.1 hk)]
  · obtain ⟨ao, c, e⟩ := h.l2
    refine ⟨ao, c, ?_⟩
    rw [h2, e]
    congr 1
    exact List.map_congr_left fun k hk => by rw [h4 k (List.mem_range.1 hk)]
  · intro k hk; rw [h3 k hk]; exact h.e1 k hk
  · intro k hk; rw [h4 k hk]; exact h.e2 k hk
/-- A new book. -/
def newB (R : Nat × Nat × Nat → Rw) (o bb : Nat) : Nat × Nat × Nat → Rw :=
  updR (updR (updR R (o, 1, 0) ⟨25, 1, none, 0, 0, []⟩) (o, 2, 0) ⟨50, 1, none, 0, 0, []⟩) (o, 0, 0) ⟨62, 3, some ⟨bb, 0, none⟩, 1, 1, [.slice none 0 0, .slice none 0 0, .int .i64 0]⟩
theorem newB_hold (H : Hold base w R) (o : Nat) : Hold base (w.alloc (.cells #[.slice none 0 0, .slice none 0 0, .int .i64 0] 62)) (newB R o w.heap.size) := by
  have h1 := H.add (o, 1, 0) (r := ⟨25, 1, none, 0, 0, []⟩) (World.ownsRow_nil _ _ _ _) fun s _ g hg => by cases hg
  have h2 := h1.add (o, 2, 0) (r := ⟨50, 1, none, 0, 0, []⟩) (World.ownsRow_nil _ _ _ _) fun s _ g hg => by cases hg
  exact h2.alloc (o, 0, 0) (cs := #[.slice none 0 0, .slice none 0 0, .int .i64 0]) (E := 62) (sz := 3) (n := 1) rfl (by unfold maxLen; omega)
theorem newB_bk (R : Nat × Nat × Nat → Rw) (o bb : Nat) : Bk (newB R o bb) o bb 0 0 := by
  have e0 : newB R o bb (o, 0, 0) = ⟨62, 3, some ⟨bb, 0, none⟩, 1, 1, [.slice none 0 0, .slice none 0 0, .int .i64 0]⟩ := updR_eq
  have e1 : newB R o bb (o, 1, 0) = ⟨25, 1, none, 0, 0, []⟩ := (updR_ne (by simp)).trans ((updR_ne (by simp)).trans updR_eq)
  have e2 : newB R o bb (o, 2, 0) = ⟨50, 1, none, 0, 0, []⟩ := (updR_ne (by simp)).trans updR_eq
  exact ⟨by rw [e0, e1, e2]; rfl, ⟨none, 0, by rw [e1]; rfl⟩, ⟨none, 0, by rw [e2]; rfl⟩, fun k hk => absurd hk (by omega), fun k hk => absurd hk (by omega), by omega, by omega, by omega⟩
theorem newB_ne (R : Nat × Nat × Nat → Rw) (o bb : Nat) {t : Nat × Nat × Nat} (h : t.1 ≠ o) : newB R o bb t = R t := by
  unfold newB
  rw [updR_ne (fun e => h (by rw [e])), updR_ne (fun e => h (by rw [e])), updR_ne (fun e => h (by rw [e]))]
/-- Behind i of the arrays that the new book has taken. -/
def EndI (base : Nat) (w : World) (R : Nat × Nat × Nat → Rw) (o o2 bb : Nat) (i : Nat) (wx : World) : Prop :=
  ∃ (K2 : Nat) (sz2 : Int) (R' : Nat × Nat × Nat → Rw), Hold base wx R' ∧ Bk R' o2 bb K2 sz2 ∧ (∀ t, t.1 ≠ o → t.1 ≠ o2 → R' t = R t) ∧ (∀ t, t.1 = o → (∀ k, k < i → t ≠ (o, 3, k) ∧ t ≠ (o, 4, k)) → R' t = R t) ∧ Below base w wx
set_option maxRecDepth 100000 in
set_option maxHeartbeats 6400000 in
theorem ends_any {K : Nat} {sz : Int} {va wa : Nat → Ar} (H : Hold base w R) (B : Sh R o sb K sz va wa) (o2 : Nat) (ho : o2 ≠ o) :
    Calls Try.prog 28 #[.pointer (some ⟨sb, 0, none⟩)] w (fun e w' => e = .returned (.bool true) ∧ ∃ R', Hold base w' R' ∧ (∀ t, t.1 ≠ o → t.1 ≠ o2 → R' t = R t) ∧ Below base w w') := by
  obtain ⟨p1, x1, l1⟩ := B.l1
  obtain ⟨p2, x2, l2⟩ := B.l2
  have hob := B.obj
  rw [l1, l2] at hob
  simp only [Rw.v] at hob
  have kb := B.kb
  have P1 := H.cap l1
  have P2 := H.cap l2
  have HH := Lib.hid H
  have HB := Lib.hid B
  have L1 := Lib.hid l1
  have L2 := Lib.hid l2
  have OB := Lib.hid hob
  have HP1 := Lib.hid P1
  have HP2 := Lib.hid P2
  clear H B l1 l2 hob P1 P2
  go_enter Try.func28, Try.ntmps28
  go_wp2_with fail
  go_loopw [3] (fun v3 wx => ∃ i : Nat, i ≤ K ∧ v3 = .int .i64 i ∧ Hid (Hold base wx R) ∧ Hid (Below base w wx)) (fun v3 _ => K - (RowKit.intOf v3).toNat)
  case atStart => exact ⟨0, Nat.zero_le _, rfl, HH, Below.refl _ _⟩
  case round =>
    obtain ⟨i, hi, rfl, HI, HL⟩ := hrel
    have d0 : wr.cell? ⟨sb, 0, none⟩ = some (.slice p1 K x1) := HI.out.cell OB.out 0 _ rfl
    have d1 : wr.cell? ⟨sb, 1, none⟩ = some (.slice p2 K x2) := HI.out.cell OB.out 1 _ rfl
    by_cases hlt : i < K
    · have hlt' : (i : Int) < K := by omega
      obtain ⟨g1, hg1⟩ := HP1.out.2.2.2.2 (by have := HP1.out.1; omega)
      obtain ⟨g2, hg2⟩ := HP2.out.2.2.2.2 (by have := HP2.out.1; omega)
      subst hg1 hg2
      obtain ⟨q0, q1⟩ := pairs_at (fun k => vS (va k)) (fun k => vA (va k)) K i hlt
      obtain ⟨q2, q3⟩ := pairs_at (fun k => vS (wa k)) (fun k => vA (wa k)) K i hlt
      obtain ⟨ok1, ok2, es, ea⟩ := HB.out.ok i hlt
      have I1 := (HI.out.via (adrew1 wr)).isA (HB.out.e3 i hlt) (HB.out.e4 i hlt) ok1
      have I2 := (HI.out.via (adrew1 wr)).isA (HB.out.e5 i hlt) (HB.out.e6 i hlt) ok2
      obtain ⟨Y, HY⟩ : ∃ Y, Hid (va i = Y) := ⟨_, rfl⟩
      obtain ⟨Z, HZ⟩ : ∃ Z, Hid (wa i = Z) := ⟨_, rfl⟩
      simp only [HY.out, HZ.out] at q0 q1 q2 q3 es ea I1 I2 ok1
      obtain ⟨ta, tn, tc, ba, bn, bc, t, b⟩ := Y
      obtain ⟨ca, cn, cc, da, dn, dc, c, d⟩ := Z
      simp only at es ea
      subst es ea
      simp only [vS, vA] at q0 q1 q2 q3
      have CE := Lib.hid (eq_any I1 I2)
      simp only [Ar.v, and_self, decide_true] at CE
      have KC : Hid (∀ wx, Below wr.heap.size wr wx → wx.cell? ⟨sb, 0, none⟩ = some (.slice (some ⟨g1, 0, none⟩) K x1) ∧ wx.cell? ⟨sb, 1, none⟩ = some (.slice (some ⟨g2, 0, none⟩) K x2) ∧ wx.cell? ⟨g1, i * 2, none⟩ = some (.slice ta tn tc) ∧ wx.cell? ⟨g1, i * 2 + 1, none⟩ = some (.slice ba bn bc) ∧ wx.cell? ⟨g2, i * 2, none⟩ = some (.slice ca cn cc) ∧ wx.cell? ⟨g2, i * 2 + 1, none⟩ = some (.slice da dn dc)) := fun wx hb =>
        have h := HI.out.via hb
        ⟨h.cell OB.out 0 _ rfl, h.cell OB.out 1 _ rfl, h.cell L1.out _ _ q0, h.cell L1.out _ _ q1, h.cell L2.out _ _ q2, h.cell L2.out _ _ q3⟩
      obtain ⟨-, -, k2, k3, k4, k5⟩ := KC.out wr (Below.refl _ _)
      have hd1 := adrew1 wr
      clear ok1 ok2 I1 I2 q0 q1 q2 q3
      go_upto_region 4 with fail
      go_region_held3 (fun wx => wx.cell? ⟨sb, 0, none⟩ = some (.slice (some ⟨g1, 0, none⟩) K x1) ∧ wx.cell? ⟨sb, 1, none⟩ = some (.slice (some ⟨g2, 0, none⟩) K x2) ∧ wx.cell? ⟨g1, i * 2, none⟩ = some (.slice ta tn tc) ∧ wx.cell? ⟨g1, i * 2 + 1, none⟩ = some (.slice ba bn bc) ∧ wx.cell? ⟨g2, i * 2, none⟩ = some (.slice ca cn cc) ∧ wx.cell? ⟨g2, i * 2 + 1, none⟩ = some (.slice da dn dc)) (first | (with_reducible exact KC.out _ hB2) | go_keep)
        ((go_at_call 27; (with_reducible refine Calls.mono CE.out ?_); rintro e w2 ⟨rfl, hb2⟩; have hB2 := abvia hd1 hb2))
      have HI2 := Lib.hid (HI.out.via hB2)
      have HL2 := Lib.hid (HL.out.trans (hB2.mono HI.out.base))
      clear hB2 hb2 hd1 k2 k3 k4 k5 d0 d1
      go_wp2
      go_roundw
      case rel => first | exact ⟨i + 1, by omega, by go_num, HI2, HL2⟩ | ((repeat apply Exists.intro); exact ⟨⟨i + 1, by omega, by go_num, HI2, HL2⟩, rfl⟩)
      case measure => simp [RowKit.intOf] <;> omega
    · have hge : (K : Int) ≤ i := by omega
      obtain ⟨W1, HW1⟩ : ∃ z, Hid (wr.alloc (.cells #[.slice none 0 0, .slice none 0 0, .int .i64 0] 62) = z) := ⟨_, rfl⟩
      have HB0 : Hid (EndI base w R o o2 wr.heap.size 0 W1) := ⟨0, 0, newB R o2 wr.heap.size, by rw [← HW1.out]; exact newB_hold HI.out o2, newB_bk _ _ _, fun t h1 h2 => newB_ne _ _ _ h2, fun t h1 _ => newB_ne _ _ _ (by rw [h1]; exact fun e => ho e.symm), by rw [← HW1.out]; exact HL.out.trans ((abal _ _).mono HI.out.base)⟩
      obtain ⟨bb, HBB⟩ : ∃ z, Hid (wr.heap.size = z) := ⟨_, rfl⟩
      rw [HBB.out] at HB0
      have g0 : W1.cell? ⟨sb, 0, none⟩ = some (.slice p1 K x1) := by
        obtain ⟨K9, z9, R9, g1, g2, g3, g4, g5⟩ := HB0.out
        exact g1.cell ((g4 _ rfl (fun k hk => by omega)).trans OB.out) 0 _ rfl
      clear HI HL d1 hi
      go_wp2_with fail
      rw [HW1.out, HBB.out]
      go_loopw [5] (fun v5 wx => ∃ i : Nat, i ≤ K ∧ v5 = .int .i64 i ∧ Hid (EndI base w R o o2 bb i wx)) (fun v5 _ => K - (RowKit.intOf v5).toNat)
      case atStart => exact ⟨0, Nat.zero_le _, rfl, HB0⟩
      case round =>
        clear g0
        obtain ⟨i, hi, rfl, HE⟩ := hrel
        obtain ⟨K2, z2, R2, h1, hb1, hN1, hO1, hL1⟩ := HE.out
        have HI := Lib.hid h1
        have B2 := Lib.hid hb1
        have SN := Lib.hid hN1
        have SO := Lib.hid hO1
        have HL := Lib.hid hL1
        have OB2 := Lib.hid ((SO.out (o, 0, 0) rfl (fun k hk => ⟨by simp, by simp⟩)).trans OB.out)
        have L12 := Lib.hid ((SO.out (o, 1, 0) rfl (fun k hk => ⟨by simp, by simp⟩)).trans L1.out)
        have L22 := Lib.hid ((SO.out (o, 2, 0) rfl (fun k hk => ⟨by simp, by simp⟩)).trans L2.out)
        have d0 : wr.cell? ⟨sb, 0, none⟩ = some (.slice p1 K x1) := HI.out.cell OB2.out 0 _ rfl
        have d1 : wr.cell? ⟨sb, 1, none⟩ = some (.slice p2 K x2) := HI.out.cell OB2.out 1 _ rfl
        clear h1 hb1 hN1 hO1 hL1
        by_cases hlt : i < K
        · have hlt' : (i : Int) < K := by omega
          obtain ⟨g1, hg1⟩ := HP1.out.2.2.2.2 (by have := HP1.out.1; omega)
          obtain ⟨g2, hg2⟩ := HP2.out.2.2.2.2 (by have := HP2.out.1; omega)
          subst hg1 hg2
          obtain ⟨q0, q1⟩ := pairs_at (fun k => vS (va k)) (fun k => vA (va k)) K i hlt
          obtain ⟨q2, q3⟩ := pairs_at (fun k => vS (wa k)) (fun k => vA (wa k)) K i hlt
          obtain ⟨ok1, ok2, es, ea⟩ := HB.out.ok i hlt
          have I1 := (HI.out.via (adrew1 wr)).isA ((SO.out _ rfl (fun k hk => ⟨by simp; omega, by simp⟩)).trans (HB.out.e3 i hlt)) ((SO.out _ rfl (fun k hk => ⟨by simp, by simp; omega⟩)).trans (HB.out.e4 i hlt)) ok1
          have I2 := (HI.out.via (adrew1 wr)).isA ((SO.out _ rfl (fun k hk => ⟨by simp, by simp⟩)).trans (HB.out.e5 i hlt)) ((SO.out _ rfl (fun k hk => ⟨by simp, by simp⟩)).trans (HB.out.e6 i hlt)) ok2
          obtain ⟨Y, HY⟩ : ∃ Y, Hid (va i = Y) := ⟨_, rfl⟩
          obtain ⟨Z, HZ⟩ : ∃ Z, Hid (wa i = Z) := ⟨_, rfl⟩
          simp only [HY.out, HZ.out] at q0 q1 q2 q3 es ea I1 I2 ok1
          obtain ⟨ta, tn, tc, ba, bn, bc, t, b⟩ := Y
          obtain ⟨ca, cn, cc, da, dn, dc, c, d⟩ := Z
          simp only at es ea
          subst es ea
          simp only [vS, vA] at q0 q1 q2 q3
          have CE := Lib.hid (eq_any I1 I2)
          simp only [Ar.v, and_self, decide_true] at CE
          have KC : Hid (∀ wx, Below wr.heap.size wr wx → wx.cell? ⟨sb, 0, none⟩ = some (.slice (some ⟨g1, 0, none⟩) K x1) ∧ wx.cell? ⟨sb, 1, none⟩ = some (.slice (some ⟨g2, 0, none⟩) K x2) ∧ wx.cell? ⟨g1, i * 2, none⟩ = some (.slice ta tn tc) ∧ wx.cell? ⟨g1, i * 2 + 1, none⟩ = some (.slice ba bn bc) ∧ wx.cell? ⟨g2, i * 2, none⟩ = some (.slice ca cn cc) ∧ wx.cell? ⟨g2, i * 2 + 1, none⟩ = some (.slice da dn dc)) := fun wx hb =>
            have h := HI.out.via hb
            ⟨h.cell OB2.out 0 _ rfl, h.cell OB2.out 1 _ rfl, h.cell L12.out _ _ q0, h.cell L12.out _ _ q1, h.cell L22.out _ _ q2, h.cell L22.out _ _ q3⟩
          obtain ⟨-, -, k2, k3, k4, k5⟩ := KC.out wr (Below.refl _ _)
          have hd1 := adrew1 wr
          have OKY := Lib.hid ok1
          have Q0 := Lib.hid q0
          have Q1 := Lib.hid q1
          clear ok1 ok2 I1 I2 q0 q1 q2 q3
          go_upto_region 10 with fail
          go_region_held3 (fun wx => wx.cell? ⟨sb, 0, none⟩ = some (.slice (some ⟨g1, 0, none⟩) K x1) ∧ wx.cell? ⟨sb, 1, none⟩ = some (.slice (some ⟨g2, 0, none⟩) K x2) ∧ wx.cell? ⟨g1, i * 2, none⟩ = some (.slice ta tn tc) ∧ wx.cell? ⟨g1, i * 2 + 1, none⟩ = some (.slice ba bn bc) ∧ wx.cell? ⟨g2, i * 2, none⟩ = some (.slice ca cn cc) ∧ wx.cell? ⟨g2, i * 2 + 1, none⟩ = some (.slice da dn dc)) (first | (with_reducible exact KC.out _ hB2) | go_keep)
            ((go_at_call 27; (with_reducible refine Calls.mono CE.out ?_); rintro e w2 ⟨rfl, hb2⟩; have hB2 := abvia hd1 hb2))
          have HI2 := Lib.hid (HI.out.via hB2)
          have HL2 := Lib.hid (HL.out.trans (hB2.mono HI.out.base))
          obtain ⟨k0, k1, k2, k3, k4, k5⟩ := KC.out w2 hB2
          clear hB2 hb2 hd1 d0 d1
          obtain ⟨W4, HW4⟩ : ∃ z, Hid (w2.alloc (.cells #[.slice ta tn tc, .slice ba bn bc] 55) = z) := ⟨_, rfl⟩
          have e3 : R2 (o, 3, i) = rowS ⟨ta, tn, tc, ba, bn, bc, t, b⟩ := ((SO.out _ rfl (fun k hk => ⟨by simp; omega, by simp⟩)).trans (HB.out.e3 i hlt)).trans (by rw [HY.out])
          have e4 : R2 (o, 4, i) = rowA ⟨ta, tn, tc, ba, bn, bc, t, b⟩ := ((SO.out _ rfl (fun k hk => ⟨by simp, by simp; omega⟩)).trans (HB.out.e4 i hlt)).trans (by rw [HY.out])
          have m1 := HI2.out.move (o, 3, i) (o2, 3, K2) (by simp; exact fun e => absurd e ho)
          obtain ⟨Ra, HRA⟩ : ∃ z, Hid (updR (updR R2 (o, 3, i) Rw.nil) (o2, 3, K2) (R2 (o, 3, i)) = z) := ⟨_, rfl⟩
          rw [HRA.out] at m1
          have m2 := m1.move (o, 4, i) (o2, 4, K2) (by simp; exact fun e => absurd e ho)
          obtain ⟨Rb, HRB⟩ : ∃ z, Hid (updR (updR Ra (o, 4, i) Rw.nil) (o2, 4, K2) (Ra (o, 4, i)) = z) := ⟨_, rfl⟩
          rw [HRB.out] at m2
          have m3 := m2.alloc (o2, 0, 1) (cs := #[.slice ta tn tc, .slice ba bn bc]) (E := 55) (sz := 2) (n := 1) rfl (by unfold maxLen; omega)
          rw [HW4.out] at m3
          obtain ⟨Rc, HRC⟩ : ∃ z, Hid (updR Rb (o2, 0, 1) ⟨55, 2, some ⟨w2.heap.size, 0, none⟩, 1, 1, [.slice ta tn tc, .slice ba bn bc]⟩ = z) := ⟨_, rfl⟩
          have hho : o ≠ o2 := fun e => ho e.symm
          have rcb : Rc (o2, 0, 1) = ⟨55, 2, some ⟨w2.heap.size, 0, none⟩, 1, 1, [.slice ta tn tc, .slice ba bn bc]⟩ := by rw [← HRC.out]; exact updR_eq
          have rc3 : Rc (o2, 3, K2) = rowS ⟨ta, tn, tc, ba, bn, bc, t, b⟩ := by rw [← HRC.out, updR_ne (by simp), ← HRB.out, updR_ne (by simp), updR_ne (by simp [ho]), ← HRA.out, updR_eq, e3]
          have rc4 : Rc (o2, 4, K2) = rowA ⟨ta, tn, tc, ba, bn, bc, t, b⟩ := by rw [← HRC.out, updR_ne (by simp), ← HRB.out, updR_eq, ← HRA.out, updR_ne (by simp [hho]), updR_ne (by simp), e4]
          have rcN : ∀ t, t ≠ (o2, 0, 1) → t ≠ (o2, 3, K2) → t ≠ (o2, 4, K2) → t ≠ (o, 3, i) → t ≠ (o, 4, i) → Rc t = R2 t := fun t h1 h2 h3 h4 h5 => by rw [← HRC.out, updR_ne h1, ← HRB.out, updR_ne h3, updR_ne h5, ← HRA.out, updR_ne h2, updR_ne h4]
          have m3' : Hold base W4 Rc := by rw [← HRC.out]; exact m3
          have hbk : Bk Rc o2 bb K2 z2 := B2.out.congr' (rcN _ (by simp) (by simp) (by simp) (by simp [ho]) (by simp [ho])) (rcN _ (by simp) (by simp) (by simp) (by simp [ho]) (by simp [ho])) (rcN _ (by simp) (by simp) (by simp) (by simp [ho]) (by simp [ho])) (fun k hk => rcN _ (by simp) (by simp; omega) (by simp) (by simp [ho]) (by simp [ho])) (fun k hk => rcN _ (by simp) (by simp) (by simp; omega) (by simp [ho]) (by simp [ho]))
          have CT := Lib.hid (take_any m3' hbk rc3 rc4 OKY.out.b1 OKY.out.b2 rcb)
          have RCN := Lib.hid rcN
          clear m1 m2 m3 m3' hbk rcb rc3 rc4 rcN e3 e4
          go_wp2_with fail
          rw [HW4.out]
          refine CT.out.mono ?_; rintro e w5 ⟨rfl, K5, z5, R5, -, -, h5, hb5, hN5, hL5⟩
          have HE2 : Hid (EndI base w R o o2 bb (i + 1) w5) := by
            refine ⟨K5, z5, R5, h5, hb5, fun t h1 h2 => ?_, fun t h1 h2 => ?_, (HL2.out.trans ((show Below w2.heap.size w2 W4 by rw [← HW4.out]; exact abal _ _).mono HI2.out.base)).trans hL5⟩
            · rw [hN5 t h2, RCN.out t (fun e => h2 (by rw [e])) (fun e => h2 (by rw [e])) (fun e => h2 (by rw [e])) (fun e => h1 (by rw [e])) (fun e => h1 (by rw [e]))]
              exact SN.out t h1 h2
            · have h3 : t.1 ≠ o2 := by rw [h1]; exact fun e => ho e.symm
              rw [hN5 t h3, RCN.out t (fun e => h3 (by rw [e])) (fun e => h3 (by rw [e])) (fun e => h3 (by rw [e])) (h2 i (by omega)).1 (h2 i (by omega)).2]
              exact SO.out t h1 (fun k hk => h2 k (by omega))
          clear h5 hb5 hN5 hL5 k0 k1 k2 k3 k4 k5
          go_wp2
          go_roundw
          case rel => first | exact ⟨i + 1, by omega, by go_num, HE2⟩ | ((repeat apply Exists.intro); exact ⟨⟨i + 1, by omega, by go_num, HE2⟩, rfl⟩)
          case measure => simp [RowKit.intOf] <;> omega
        · have hge2 : (K : Int) ≤ i := by omega
          have CW := Lib.hid (bookWhole_any HI.out B2.out)
          go_wp2_with fail
          refine CW.out.mono ?_; rintro e w5 ⟨rfl, hw5⟩
          have hw5' := hw5.symm
          subst hw5'
          go_wp2
          go_ret
          exact ⟨rfl, R2, HI.out, SN.out, HL.out⟩
end
end Go.Proofs.Ytdedbfbkakofgaa

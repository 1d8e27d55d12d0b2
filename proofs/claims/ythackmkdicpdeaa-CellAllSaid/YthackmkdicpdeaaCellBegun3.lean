/- Contract of abacuslaw4's begun. -/
import Derived.Test.YthackmkdicpdeaaCellBegun
namespace Go.Proofs.Ythackmkdicpdeaa
open Go.RowKit Go.Lib
set_option linter.unusedVariables false
set_option linter.unusedSimpArgs false
attribute [local go_sem] alloc_drewN setCell_drewN
/-- An array's atoms, read off its value. -/
theorem field_atoms (x y : Value) (w : World) : (Instr.field 45 (.agg #[x, y]) 1).run Try.prog w = .ok y w := by simp [Instr.field, go_sem, asAgg]
theorem field_shape (x y : Value) (w : World) : (Instr.field 45 (.agg #[x, y]) 0).run Try.prog w = .ok x w := by simp [Instr.field, go_sem, asAgg]
attribute [local go_sem] field_atoms field_shape
set_option maxRecDepth 100000 in
set_option maxHeartbeats 6400000 in
theorem begun4_any (w : World) : Calls Try.prog 5 #[] w (RetB w (.bool true)) := by
  have CT := Lib.hid (fun w => table_any w)
  go_enter Try.func5, Try.ntmps5
  go_wp2_with fail
  refine (CT.out w).mono ?_; rintro e w1 ⟨⟨ta, tn, tc, ua, un, uc, ts, us⟩, rfl, hI, hs, ha, hO, hb⟩
  have C1 := Lib.hid (oneB w1 _ hI hs ha)
  have HB1 := Lib.hid hb
  simp only [Ar.v] at *
  clear hI hs ha hO hb
  go_wp2_with fail
  refine C1.out.mono ?_; rintro e w2 ⟨fo, fn, fc, co, cn, cc, ⟨ka, kn, kc, la, ln, lc, ks, ls⟩, As, rfl, h2, hAs, -, -⟩
  obtain ⟨⟨pa, pn, pc, qa, qn, qc, ps, qs⟩, ⟨ra, rn, rc, va, vn, vc, rs, vs⟩, rfl, hrs, hvs, hrs2, hvs2⟩ := map_two hAs
  have h3 := (((((Sp.start Non w).via HB1.out).add h2).pick [1] (by decide)).split (i := 0) rfl).split (i := 2) rfl
  simp only [List.cons_append, List.nil_append, List.set_cons_zero, List.set_cons_succ, List.map_cons, List.map_nil, List.getD_cons_zero, List.getD_cons_succ] at h3
  obtain ⟨c1, c2, c3, c4, c5⟩ := h3.rcap (i := 1) rfl
  have hcn : cn = 2 := by rw [cellsA_len] at c3; simp at c3; omega
  subst hcn
  obtain ⟨g, rfl⟩ := c5 (by omega)
  have h4 := h3.pick [1, 4] (by decide)
  simp only [List.map_cons, List.map_nil, List.getD_cons_zero, List.getD_cons_succ] at h4 hrs hvs hrs2 hvs2
  have H4_ := h4.alloc 74 4 1 #[.slice fo fn fc, .slice (some ⟨g, 0, none⟩) 2 cc, .slice ka kn kc, .slice la ln lc] rfl (by decide)
  try simp only [List.cons_append, List.nil_append, List.set_cons_zero, List.set_cons_succ, List.map_cons, List.map_nil, List.getD_cons_zero, List.getD_cons_succ, World.size_alloc] at H4_
  have H4 := Lib.hid H4_
  clear H4_
  have HV := Lib.hid hvs2
  clear h2 hAs hrs hvs hrs2 hvs2 h3 h4 c1 c2 c3 c4 c5 C1 HB1
  have CJ : Hid (Calls Try.prog 21 #[.slice (some ⟨w2.heap.size + 1, 0, none⟩) 1 1, .slice (some ⟨w2.heap.size + 1 + 1 + 1 + 1 + 1, 0, none⟩) 2 2] ((((((w2.alloc (.cells #[.slice fo fn fc, .slice (some ⟨g, 0, none⟩) 2 cc, .slice ka kn kc, .slice la ln lc] 74)).alloc (.cells #[.int .i64 2] 3)).alloc (.cells #[.int .i64 1] 2)).alloc (.cells #[.int .i64 2] 3)).alloc (.cells #[.int .i64 3, .int .i64 4] 2)).alloc (.cells #[.slice none 0 0, .slice (some ⟨w2.heap.size + 1 + 1, 0, none⟩) 1 1, .slice (some ⟨w2.heap.size + 1 + 1 + 1, 0, none⟩) 1 1, .slice (some ⟨w2.heap.size + 1 + 1 + 1 + 1, 0, none⟩) 2 2] 45))
      (MadeE ((((((w2.alloc (.cells #[.slice fo fn fc, .slice (some ⟨g, 0, none⟩) 2 cc, .slice ka kn kc, .slice la ln lc] 74)).alloc (.cells #[.int .i64 2] 3)).alloc (.cells #[.int .i64 1] 2)).alloc (.cells #[.int .i64 2] 3)).alloc (.cells #[.int .i64 3, .int .i64 4] 2)).alloc (.cells #[.slice none 0 0, .slice (some ⟨w2.heap.size + 1 + 1, 0, none⟩) 1 1, .slice (some ⟨w2.heap.size + 1 + 1 + 1, 0, none⟩) 1 1, .slice (some ⟨w2.heap.size + 1 + 1 + 1 + 1, 0, none⟩) 2 2] 45)) [2, 2] [1, 0, 3, 4] 0)) := by
    have l1 := ints_lit (w2.alloc (.cells #[.slice fo fn fc, .slice (some ⟨g, 0, none⟩) 2 cc, .slice ka kn kc, .slice la ln lc] 74)) [2] 3 #[.int .i64 2] rfl (by decide) 1 rfl
    have l2 := ints_lit ((w2.alloc (.cells #[.slice fo fn fc, .slice (some ⟨g, 0, none⟩) 2 cc, .slice ka kn kc, .slice la ln lc] 74)).alloc (.cells #[.int .i64 2] 3)) [1] 2 #[.int .i64 1] rfl (by decide) 1 rfl
    have l3 := ints_lit (((w2.alloc (.cells #[.slice fo fn fc, .slice (some ⟨g, 0, none⟩) 2 cc, .slice ka kn kc, .slice la ln lc] 74)).alloc (.cells #[.int .i64 2] 3)).alloc (.cells #[.int .i64 1] 2)) [2] 3 #[.int .i64 2] rfl (by decide) 1 rfl
    have l4 := ints_lit ((((w2.alloc (.cells #[.slice fo fn fc, .slice (some ⟨g, 0, none⟩) 2 cc, .slice ka kn kc, .slice la ln lc] 74)).alloc (.cells #[.int .i64 2] 3)).alloc (.cells #[.int .i64 1] 2)).alloc (.cells #[.int .i64 2] 3)) [3, 4] 2 #[.int .i64 3, .int .i64 4] rfl (by decide) 2 rfl
    simp only [World.size_alloc] at l1 l2 l3 l4
    exact joinB _ (l1.via (abvia (abvia (abvia (abal _ _) (abal _ _)) (abal _ _)) (abal _ _))) (ars_two (A := ⟨none, 0, 0, _, _, _, [], [1]⟩) (B := ⟨_, _, _, _, _, _, [2], [3, 4]⟩) (by simp) (by simp [go_sem]) (by simp [go_sem]) (by simp [go_sem]) (by simp [go_sem])
      ⟨Ls.zero _ _ (Nat.zero_le _), l2.via (abvia (abvia (abal _ _) (abal _ _)) (abal _ _))⟩ ⟨l3.via (abvia (abal _ _) (abal _ _)), l4.via (abal _ _)⟩) rfl
  go_wp2_with fail
  refine CJ.out.mono ?_; rintro e w3 ⟨⟨xa, xn, xc, ya, yn, yc, xs, ys⟩, rfl, hI, hs, ha, hO, hb⟩
  have H5_ := ((H4.out.via (abvia (abvia (abvia (abvia (abal _ _) (abal _ _)) (abal _ _)) (abal _ _)) (abal _ _))).arrNew hI hO hb).alloc 45 2 1 #[.slice xa xn xc, .slice ya yn yc] rfl (by decide)
  try simp only [List.cons_append, List.nil_append, List.set_cons_zero, List.set_cons_succ, List.map_cons, List.map_nil, List.getD_cons_zero, List.getD_cons_succ, World.size_alloc] at H5_
  have H5 := Lib.hid H5_
  clear H5_
  have HX := Lib.hid ha
  simp only [Ar.v] at *
  clear hI hs ha hO hb CJ
  go_wp2_with fail
  refine (CT.out _).mono ?_; rintro e w4 ⟨⟨ta, tn, tc, ua, un, uc, ts, us⟩, rfl, hI, hs, ha, hO, hb⟩
  have C1 := Lib.hid (partB w4 _ hI hs ha)
  have HH := Lib.hid (H5.out.via hb)
  simp only [Ar.v] at *
  clear hI hs ha hO hb H5 H4
  go_wp2_with fail
  refine C1.out.mono ?_; rintro e w5 ⟨⟨za, zn, zc, ba, bn, bc, zs, bs⟩, rfl, hI, hs, ha, hO, hb⟩
  have H6_ := (HH.out.arrNew hI hO hb).alloc 45 2 1 #[.slice za zn zc, .slice ba bn bc] rfl (by decide)
  try simp only [List.cons_append, List.nil_append, List.set_cons_zero, List.set_cons_succ, List.map_cons, List.map_nil, List.getD_cons_zero, List.getD_cons_succ, World.size_alloc] at H6_
  have H6 := Lib.hid H6_
  clear H6_
  have HP := Lib.hid ha
  simp only [Ar.v] at *
  clear hI hs ha hO hb HH C1
  go_wp2_with fail
  refine (CT.out _).mono ?_; rintro e w6 ⟨⟨ta, tn, tc, ua, un, uc, ts, us⟩, rfl, hI, hs, ha, hO, hb⟩
  have C1 := Lib.hid (piecesB w6 _ hI hs ha)
  have HH := Lib.hid (H6.out.via hb)
  simp only [Ar.v] at *
  clear hI hs ha hO hb H6
  go_wp2_with fail
  refine C1.out.mono ?_; rintro e w7 ⟨lo, lm, lc2, ⟨da, dn, dc, ea, en, ec, ds, es⟩, rfl, h7, hl, -, -⟩
  have hlm : lm = 2 := by simpa using hl.symm
  subst hlm
  have H7_ := (HH.out.add h7).alloc 45 2 1 #[.slice da dn dc, .slice ea en ec] rfl (by decide)
  try simp only [List.cons_append, List.nil_append, List.set_cons_zero, List.set_cons_succ, List.map_cons, List.map_nil, List.getD_cons_zero, List.getD_cons_succ, World.size_alloc] at H7_
  have H7 := Lib.hid H7_
  clear H7_
  simp only [Ar.v] at *
  clear hl h7 HH C1
  have hl := ints_lit (w7.alloc (.cells #[.slice da dn dc, .slice ea en ec] 45)) [0] 3 #[.int .i64 0] rfl (by decide) 1 rfl
  simp only [World.size_alloc] at hl
  have HL := Lib.hid hl
  clear hl
  go_wp2_with fail
  refine (CT.out _).mono ?_; rintro e w8 ⟨⟨ta, tn, tc, ua, un, uc, ts, us⟩, rfl, hI, hs, ha, hO, hb⟩
  have C1 := Lib.hid (emptyB w8 (HL.out.via hb) _ hI hs ha)
  have HH := Lib.hid ((H7.out.via (abal _ _)).via hb)
  simp only [Ar.v] at *
  clear hI hs ha hO hb H7 HL
  go_wp2_with fail
  refine C1.out.mono ?_; rintro e w9 ⟨⟨fa, fm, fd, ga, gn, gc, fs, gs⟩, rfl, hI, hs, ha, hO, hb⟩
  have H8_ := (HH.out.arrNew hI hO hb).alloc 45 2 1 #[.slice fa fm fd, .slice ga gn gc] rfl (by decide)
  try simp only [List.cons_append, List.nil_append, List.set_cons_zero, List.set_cons_succ, List.map_cons, List.map_nil, List.getD_cons_zero, List.getD_cons_succ, World.size_alloc] at H8_
  have H8 := Lib.hid H8_
  clear H8_
  have HY := Lib.hid (And.intro hs ha)
  simp only [Ar.v] at *
  clear hI hs ha hO hb HH C1
  have hl := begin_ok (ints_lit (w9.alloc (.cells #[.slice fa fm fd, .slice ga gn gc] 45)) [1] 3 #[.int .i64 1] rfl (by decide) 1 rfl) (by decide)
  simp only [World.size_alloc] at hl
  have C1 := Lib.hid hl
  clear hl
  go_wp2_with fail
  refine C1.out.mono ?_; rintro e w10 ⟨j, rfl, h10⟩
  have H9_ := (H8.out.via (abal _ _)).add h10
  try simp only [List.cons_append, List.nil_append, List.set_cons_zero, List.set_cons_succ, List.map_cons, List.map_nil, List.getD_cons_zero, List.getD_cons_succ, World.size_alloc] at H9_
  have H9 := Lib.hid H9_
  clear H9_
  have y1 := H9.out.cell (i := 2) rfl 1 _ rfl
  clear H8 C1 h10
  go_wp2_with fail
  refine (CT.out _).mono ?_; rintro e w11 ⟨⟨ta, tn, tc, ua, un, uc, ts, us⟩, rfl, hI, hs, ha, hO, hb⟩
  have H10_ := H9.out.arrNew hI hO hb
  try simp only [List.cons_append, List.nil_append, List.set_cons_zero, List.set_cons_succ, List.map_cons, List.map_nil, List.getD_cons_zero, List.getD_cons_succ, World.size_alloc] at H10_
  have H10 := Lib.hid H10_
  clear H10_
  obtain ⟨F, hF, -, hoth, hput⟩ := H10.out.hole (i := 12) rfl
  obtain ⟨G, hG, hGF⟩ := hoth 13 _ (by decide) rfl
  obtain ⟨hI', -, hGk⟩ := Pt.arr_own hG
  have C1 := Lib.hid (addB hF hI' ⟨fun _ k hk => hGF k ((hGk k).2 (.inl hk)), fun _ k hk => hGF k ((hGk k).2 (.inr hk))⟩ hs ha)
  have HPUT := Lib.hid hput
  simp only [Ar.v] at *
  clear hI hs ha hO hb H9 H10 y1 hF hoth hput hG hGF hI' hGk
  go_wp2_with fail
  refine C1.out.mono ?_; rintro e w12 ⟨rfl, F', hF', hs', ho'⟩
  have H11_ := HPUT.out w12 _ F' hF' hs' ho'
  try simp only [List.cons_append, List.nil_append, List.set_cons_zero, List.set_cons_succ, List.map_cons, List.map_nil, List.getD_cons_zero, List.getD_cons_succ, World.size_alloc] at H11_
  have H11 := Lib.hid H11_
  clear H11_
  obtain ⟨F2, hF, -, -, hput⟩ := H11.out.hole2 (i := 12) rfl
  have C2 := Lib.hid (doneB hF)
  have HPUT2 := Lib.hid hput
  clear hF hput H11 HPUT C1 hF' hs' ho'
  go_wp2_with fail
  refine C2.out.mono ?_; rintro e w13 ⟨⟨ma, mn, mc, na, nn, nc, ms, ns⟩, rfl, hs, ha, h13⟩
  simp only at hs ha
  have h14 := (HPUT2.out w13 _ h13).alloc 45 2 1 #[.slice ma mn mc, .slice na nn nc] rfl (by decide)
  simp only [List.cons_append, List.nil_append, List.set_cons_zero, List.set_cons_succ] at h14
  obtain ⟨W, HW⟩ : ∃ z, Hid (w13.alloc (.cells #[.slice ma mn mc, .slice na nn nc] 45) = z) := ⟨_, rfl⟩
  rw [HW.out] at h14
  have HC : Hid (∀ w', Below W.heap.size W w' → w'.cell? ⟨w2.heap.size, 1, none⟩ = some (.slice (some ⟨g, 0, none⟩) 2 cc) ∧ w'.cell? ⟨g, 3, none⟩ = some (.slice va vn vc) ∧ w'.cell? ⟨w3.heap.size, 1, none⟩ = some (.slice ya yn yc) ∧ w'.cell? ⟨w5.heap.size, 1, none⟩ = some (.slice ba bn bc) ∧
      w'.cell? ⟨w9.heap.size, 0, none⟩ = some (.slice fa fm fd) ∧ w'.cell? ⟨w9.heap.size, 1, none⟩ = some (.slice ga gn gc) ∧ w'.cell? ⟨w13.heap.size, 0, none⟩ = some (.slice ma mn mc) ∧ w'.cell? ⟨w13.heap.size, 1, none⟩ = some (.slice na nn nc)) := fun w' hb => by
    have h := h14.via hb
    exact ⟨h.cell (i := 2) rfl 1 _ rfl, h.cell (i := 0) rfl 3 _ rfl, h.cell (i := 4) rfl 1 _ rfl, h.cell (i := 6) rfl 1 _ rfl, h.cell (i := 11) rfl 0 _ rfl, h.cell (i := 11) rfl 1 _ rfl, h.cell (i := 16) rfl 0 _ rfl, h.cell (i := 16) rfl 1 _ rfl⟩
  have E1 : Hid (Calls Try.prog 28 #[.slice va vn vc, .slice (some ⟨W.heap.size, 0, none⟩) 3 3] (W.alloc (.cells #[.int .i64 4, .int .i64 5, .int .i64 6] 2)).drew (Ret (W.alloc (.cells #[.int .i64 4, .int .i64 5, .int .i64 6] 2)).drew (.bool true))) := by
    have h := eqatoms4_any (((h14.isA (i := 1) rfl).ats.via (abal _ _)).drew 1) ((ints_lit W [4, 5, 6] 2 #[.int .i64 4, .int .i64 5, .int .i64 6] rfl (by decide) 3 rfl).drew 1)
    simp only [HV.out] at h
    exact h
  have E2 : Hid (∀ W1 : World, Below W.heap.size W W1 → Calls Try.prog 28 #[.slice ya yn yc, .slice (some ⟨W1.heap.size, 0, none⟩) 4 4] (W1.alloc (.cells #[.int .i64 1, .int .i64 0, .int .i64 3, .int .i64 4] 2)) (Ret (W1.alloc (.cells #[.int .i64 1, .int .i64 0, .int .i64 3, .int .i64 4] 2)) (.bool true))) := fun W1 hb => by
    have h := eqatoms4_any (((h14.via hb).isA (i := 3) rfl).ats.via (abal _ _)) (ints_lit W1 [1, 0, 3, 4] 2 #[.int .i64 1, .int .i64 0, .int .i64 3, .int .i64 4] rfl (by decide) 4 rfl)
    simp only [HX.out] at h
    exact h
  have E3 : Hid (∀ W1 : World, Below W.heap.size W W1 → Calls Try.prog 28 #[.slice ba bn bc, .slice (some ⟨W1.heap.size, 0, none⟩) 3 3] (W1.alloc (.cells #[.int .i64 4, .int .i64 5, .int .i64 6] 2)) (Ret (W1.alloc (.cells #[.int .i64 4, .int .i64 5, .int .i64 6] 2)) (.bool true))) := fun W1 hb => by
    have h := eqatoms4_any (((h14.via hb).isA (i := 5) rfl).ats.via (abal _ _)) (ints_lit W1 [4, 5, 6] 2 #[.int .i64 4, .int .i64 5, .int .i64 6] rfl (by decide) 3 rfl)
    simp only [HP.out] at h
    exact h
  have E4 : Hid (∀ W1 : World, Below W.heap.size W W1 → Calls Try.prog 29 #[.slice lo 2 lc2, .slice (some ⟨W1.heap.size, 0, none⟩) 2 2] (W1.alloc (.cells #[.int .i64 0, .int .i64 1, .int .i64 1, .int .i64 1] 93)) (RetB (W1.alloc (.cells #[.int .i64 0, .int .i64 1, .int .i64 1, .int .i64 1] 93)) (.bool true))) := fun W1 hb => by
    have h := eqpieces4_any (((h14.via hb).via (abal _ _)).pcs (i := 7) (l := [(0, 1), (1, 1)]) rfl rfl) ((((h14.via hb).alloc 93 2 2 #[.int .i64 0, .int .i64 1, .int .i64 1, .int .i64 1] rfl (by decide))).pcs (i := 17) (l := [(0, 1), (1, 1)]) rfl rfl)
    exact h
  have E5 : Hid (∀ W1 : World, Below W.heap.size W W1 → Calls Try.prog 30 #[.agg #[.slice fa fm fd, .slice ga gn gc], .agg #[.slice (some ⟨W1.heap.size, 0, none⟩) 1 1, .slice none 0 0]] (W1.alloc (.cells #[.int .i64 0] 3)) (RetB (W1.alloc (.cells #[.int .i64 0] 3)) (.bool true))) := fun W1 hb => by
    have h := eq4_any (B := ⟨_, _, _, none, 0, 0, [0], []⟩) (((h14.via hb).isA (i := 10) rfl).via (abal _ _)) ⟨ints_lit W1 [0] 3 #[.int .i64 0] rfl (by decide) 1 rfl, Ls.zero _ _ (Nat.zero_le _)⟩
    simp only [HY.out.1, HY.out.2, Ar.v, and_self, decide_true] at h
    exact h
  have E7 : Hid (∀ (W1 : World) (B : Ar), Below W.heap.size W W1 → B.Is W1 → B.s = [1, 2, 3] → B.a = [1, 2, 3, 4, 5, 6] → Calls Try.prog 30 #[.agg #[.slice ma mn mc, .slice na nn nc], B.v] W1 (RetB W1 (.bool true))) := fun W1 B hb hB q1 q2 => by
    have h := eq4_any ((h14.via hb).isA (i := 15) rfl) hB
    simp only [hs, ha, q1, q2, and_self, decide_true] at h
    exact h
  have HBW := Lib.hid h14.belowN
  obtain ⟨x0, x1, x2, x3, x4, x5, x6, x7⟩ := HC.out W (Below.refl _ _)
  clear hs ha h13 h14 HPUT2 C2
  simp only [Ar.v] at *
  go_wp2_with fail
  rw [HW.out]
  go_region_held3 (fun w'' => w''.cell? ⟨w2.heap.size, 1, none⟩ = some (.slice (some ⟨g, 0, none⟩) 2 cc) ∧ w''.cell? ⟨g, 3, none⟩ = some (.slice va vn vc) ∧ w''.cell? ⟨w3.heap.size, 1, none⟩ = some (.slice ya yn yc) ∧ w''.cell? ⟨w5.heap.size, 1, none⟩ = some (.slice ba bn bc) ∧ w''.cell? ⟨w9.heap.size, 0, none⟩ = some (.slice fa fm fd) ∧ w''.cell? ⟨w9.heap.size, 1, none⟩ = some (.slice ga gn gc) ∧ w''.cell? ⟨w13.heap.size, 0, none⟩ = some (.slice ma mn mc) ∧ w''.cell? ⟨w13.heap.size, 1, none⟩ = some (.slice na nn nc)) (go_keep)
    (first
    | (go_at_call 28; (with_reducible refine Calls.mono E1.out ?_); rintro e v1 ⟨rfl, n1, hq⟩; have HC1 : Hid (Below W.heap.size W v1) := (by show Below _ _ _; rw [hq]; exact abvia (abvia (abal W _) (adrew1 _)) (adrew _ _)); clear hq; clear x0 x1 x2 x3 x4 x5 x6 x7; obtain ⟨x0, x1, x2, x3, x4, x5, x6, x7⟩ := HC.out _ HC1.out)
    | (go_at_call 28; (with_reducible refine Calls.mono (E2.out _ HC1.out) ?_); rintro e v2 ⟨rfl, n2, hq⟩; have HC2 : Hid (Below W.heap.size W v2) := (by show Below _ _ _; rw [hq]; exact abvia (abvia HC1.out (abal _ _)) (adrew _ _)); clear hq; clear x0 x1 x2 x3 x4 x5 x6 x7; obtain ⟨x0, x1, x2, x3, x4, x5, x6, x7⟩ := HC.out _ HC2.out)
    | (go_at_call 28; (with_reducible refine Calls.mono (E3.out _ HC2.out) ?_); rintro e v3 ⟨rfl, n3, hq⟩; have HC3 : Hid (Below W.heap.size W v3) := (by show Below _ _ _; rw [hq]; exact abvia (abvia HC2.out (abal _ _)) (adrew _ _)); clear hq; clear x0 x1 x2 x3 x4 x5 x6 x7; obtain ⟨x0, x1, x2, x3, x4, x5, x6, x7⟩ := HC.out _ HC3.out)
    | (go_at_call 29; (with_reducible refine Calls.mono (E4.out _ HC3.out) ?_); rintro e v4 ⟨rfl, hq⟩; have HC4 : Hid (Below W.heap.size W v4) := (by show Below _ _ _; exact abvia (abvia HC3.out (abal _ _)) hq); clear hq; clear x0 x1 x2 x3 x4 x5 x6 x7; obtain ⟨x0, x1, x2, x3, x4, x5, x6, x7⟩ := HC.out _ HC4.out)
    | (go_at_call 30; (with_reducible refine Calls.mono (E5.out _ HC4.out) ?_); rintro e v5 ⟨rfl, hq⟩; have HC5 : Hid (Below W.heap.size W v5) := (by show Below _ _ _; exact abvia (abvia HC4.out (abal _ _)) hq); clear hq; clear x0 x1 x2 x3 x4 x5 x6 x7; obtain ⟨x0, x1, x2, x3, x4, x5, x6, x7⟩ := HC.out _ HC5.out)
    | (go_at_call 20; (with_reducible refine Calls.mono (CT.out _) ?_); rintro e v6 ⟨⟨ta, tn, tc, ua, un, uc, ts, us⟩, rfl, hI, hs, ha, -, hq⟩; have HC6 : Hid (Below W.heap.size W v6) := (by show Below _ _ _; exact abvia (abvia HC5.out (abal _ _)) hq); have E8 := Lib.hid (E7.out v6 ⟨_, _, _, _, _, _, [1, 2, 3], us⟩ HC6.out ⟨(ints_lit v5 [1, 2, 3] 3 #[.int .i64 1, .int .i64 2, .int .i64 3] rfl (by decide) 3 rfl).via hq, hI.ats⟩ rfl ha); simp only [Ar.v] at E8 ⊢; clear hI hs ha; clear hq; clear x0 x1 x2 x3 x4 x5 x6 x7; obtain ⟨x0, x1, x2, x3, x4, x5, x6, x7⟩ := HC.out _ HC6.out)
    | (go_at_call 20; (with_reducible refine Calls.mono (CT.out _) ?_); rintro e v6 ⟨⟨ta, tn, tc, ua, un, uc, ts, us⟩, rfl, hI, hs, ha, -, hq⟩; have HC6 : Hid (Below W.heap.size W v6) := (by show Below _ _ _; exact abvia HC5.out hq); have E8 := Lib.hid (E7.out (v6.alloc (.cells #[.int .i64 1, .int .i64 2, .int .i64 3] 3)) ⟨_, _, _, _, _, _, [1, 2, 3], us⟩ (abvia HC6.out (abal _ _)) ⟨ints_lit v6 [1, 2, 3] 3 #[.int .i64 1, .int .i64 2, .int .i64 3] rfl (by decide) 3 rfl, hI.ats.via (abal _ _)⟩ rfl ha); simp only [Ar.v] at E8 ⊢; clear hI hs ha; clear hq; clear x0 x1 x2 x3 x4 x5 x6 x7; obtain ⟨x0, x1, x2, x3, x4, x5, x6, x7⟩ := HC.out _ HC6.out)
    | (go_at_call 30; (with_reducible refine Calls.mono E8.out ?_); rintro e v7 ⟨rfl, hq⟩; have HC7 : Hid (Below W.heap.size W v7) := (by show Below _ _ _; first | exact abvia HC6.out hq | exact abvia (abvia HC6.out (abal _ _)) hq); clear hq; clear x0 x1 x2 x3 x4 x5 x6 x7; obtain ⟨x0, x1, x2, x3, x4, x5, x6, x7⟩ := HC.out _ HC7.out)
    )
  all_goals
    go_wp2
    go_ret
    exact RetB.mk rfl (abvia HBW.out HC7.out)
end Go.Proofs.Ythackmkdicpdeaa

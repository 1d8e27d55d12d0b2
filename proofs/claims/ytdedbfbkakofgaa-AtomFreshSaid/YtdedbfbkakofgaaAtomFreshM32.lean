/- AtomFresh: the walk of the statement's function. -/
import Derived.Test.YtdedbfbkakofgaaAtomFreshM14
import Derived.Test.YtdedbfbkakofgaaAtomFreshM31
import Derived.Test.YtdedbfbkakofgaaAtomFreshM12
namespace Go.Proofs.Ytdedbfbkakofgaa
open Go.RowKit Go.Lib
set_option linter.unusedVariables false
set_option linter.unusedSimpArgs false
attribute [local go_sem] alloc_drewN setCell_drewN
theorem Hold.put3456 {base : Nat} {w : World} {R : Nat × Nat × Nat → Rw} {t : Nat × Nat × Nat} {E : TypeId} {sz g n c : Nat} {x0 x1 x2 x3 x4 x5 x6 : Value} (h : Hold base w R) (e : R t = ⟨E, sz, some ⟨g, 0, none⟩, n, c, [x0, x1, x2, x3, x4, x5, x6]⟩) (u v y z : Value) :
    Hold base ((((w.setCell ⟨g, 3, none⟩ u).setCell ⟨g, 4, none⟩ v).setCell ⟨g, 5, none⟩ y).setCell ⟨g, 6, none⟩ z) (updR R t ⟨E, sz, some ⟨g, 0, none⟩, n, c, [x0, x1, x2, u, v, y, z]⟩) ∧ Below base w ((((w.setCell ⟨g, 3, none⟩ u).setCell ⟨g, 4, none⟩ v).setCell ⟨g, 5, none⟩ y).setCell ⟨g, 6, none⟩ z) := by
  have a1 := h.put e 3 u
  have a2 := a1.put updR_eq 4 v
  have a3 := a2.put updR_eq 5 y
  have a4 := a3.put updR_eq 6 z
  rw [updR_two, updR_two, updR_two] at a4
  exact ⟨a4, (((h.putB e 3 u).trans (a1.putB updR_eq 4 v)).trans (a2.putB updR_eq 5 y)).trans (a3.putB updR_eq 6 z)⟩
set_option maxRecDepth 100000 in
set_option maxHeartbeats 6400000 in
theorem walkAtomFresh {w : World} {ao : Option Addr} {n c : Nat} {os : Nat → Opv} (hO : Ops w ao n c os) :
    Calls Try.prog 9 #[.slice ao n c] w (RetB w (.bool true)) := by
  have BG := Lib.hid (begun5_any w)
  have hbig := hO.big
  have HOP := Lib.hid hO
  clear hO
  go_enter Try.func9, Try.ntmps9
  go_wp2_with fail
  refine BG.out.mono ?_; rintro e w1 ⟨rfl, hb1⟩
  obtain ⟨W2, HW2⟩ : ∃ z, Hid ((w1.alloc (.cells #[.slice none 0 0, .slice none 0 0, .int .i64 0] 62)).alloc (.cells #[.slice none 0 0, .slice none 0 0, .int .i64 0] 66) = z) := ⟨_, rfl⟩
  have HR0 : Hid (FrI w w1.heap.size (w1.heap.size + 1) W2) := by
    show FrI _ _ _ _
    rw [← HW2.out]; exact FrI.new hb1
  clear hb1
  go_wp2_with fail
  rw [HW2.out]
  obtain ⟨bb, HBB⟩ : ∃ z, Hid (w1.heap.size = z) := ⟨_, rfl⟩
  obtain ⟨sb, HSB⟩ : ∃ z, Hid (w1.heap.size + 1 = z) := ⟨_, rfl⟩
  rw [HSB.out, HBB.out] at HR0
  rw [HSB.out, HBB.out]
  go_loopw [5, 6, 7, 8, 9, 10, 11, 12, 13, 14, 15] (fun v5 v6 v7 v8 v9 v10 v11 v12 v13 v14 v15 wx => ∃ k : Nat, k ≤ n ∧ v5 = .int .i64 k ∧ Hid (FrI w bb sb wx)) (fun v5 _ _ _ _ _ _ _ _ _ _ _ => n - (RowKit.intOf v5).toNat)
  case atStart => exact ⟨0, Nat.zero_le _, rfl, HR0⟩
  case round =>
    clear HR0
    obtain ⟨k, hk, rfl, HR⟩ := hrel
    by_cases hlt : k < n
    · have hlt' : (k : Int) < n := by omega
      obtain ⟨b, off, rfl, hbl, hcs⟩ := HOP.out.mem (by omega)
      have hck := hcs k hlt
      have HIX := Lib.hid (HOP.out.x k hlt)
      have HIY := Lib.hid (HOP.out.y k hlt)
      obtain ⟨o, HOK⟩ : ∃ o, Hid (os k = o) := ⟨_, rfl⟩
      rw [HOK.out] at hck HIX HIY
      obtain ⟨kk, op, nn, X, Y⟩ := o
      obtain ⟨sa, sn, sc, aa, an, ac, s, a⟩ := X
      obtain ⟨ta, tn, tc, ba, bn, bc, t, b'⟩ := Y
      have HSC : Hid (∀ wx, Below w.heap.size w wx → ∀ j v, (Opv.cells ⟨kk, op, nn, ⟨sa, sn, sc, aa, an, ac, s, a⟩, ⟨ta, tn, tc, ba, bn, bc, t, b'⟩⟩)[j]? = some v → wx.cell? ⟨b, off + (k * 7 + j), none⟩ = some v) := fun wx hx j v hj =>
        (hx.cell (p := ⟨b, off + (k * 7 + j), none⟩) hbl).trans (hck j v hj)
      obtain ⟨K, sz, Ks, szs, va, wa, R, h1, h2, h3, h4⟩ := HR.out
      have HH := Lib.hid h1
      have HB := Lib.hid h2
      have HS := Lib.hid h3
      have HL := Lib.hid h4
      have d0 : wr.cell? ⟨b, off + k * 7, none⟩ = some (.int .i64 kk) := by exact HSC.out wr h4 0 _ rfl
      have d1 : wr.cell? ⟨b, off + k * 7 + 1, none⟩ = some (.int .i64 op) := by rw [Nat.add_assoc]; exact HSC.out wr h4 1 _ rfl
      have d2 : wr.cell? ⟨b, off + k * 7 + 2, none⟩ = some (.int .i64 nn) := by rw [Nat.add_assoc]; exact HSC.out wr h4 2 _ rfl
      have d3 : wr.cell? ⟨b, off + k * 7 + 3, none⟩ = some (.slice sa sn sc) := by rw [Nat.add_assoc]; exact HSC.out wr h4 3 _ rfl
      have d4 : wr.cell? ⟨b, off + k * 7 + 4, none⟩ = some (.slice aa an ac) := by rw [Nat.add_assoc]; exact HSC.out wr h4 4 _ rfl
      have d5 : wr.cell? ⟨b, off + k * 7 + 5, none⟩ = some (.slice ta tn tc) := by rw [Nat.add_assoc]; exact HSC.out wr h4 5 _ rfl
      have d6 : wr.cell? ⟨b, off + k * 7 + 6, none⟩ = some (.slice ba bn bc) := by rw [Nat.add_assoc]; exact HSC.out wr h4 6 _ rfl
      obtain ⟨R6, g6, r6o, r6N⟩ := h1.lay (9, 0, 0) (cs := #[.int .i64 kk, .int .i64 op, .int .i64 nn, .slice sa sn sc, .slice aa an ac, .slice ta tn tc, .slice ba bn bc]) (E := 75) (sz := 7) (n := 1) rfl (by unfold maxLen; omega)
      obtain ⟨W6, HW6⟩ : ∃ z, Hid (wr.alloc (.cells #[.int .i64 kk, .int .i64 op, .int .i64 nn, .slice sa sn sc, .slice aa an ac, .slice ta tn tc, .slice ba bn bc] 75) = z) := ⟨_, rfl⟩
      rw [HW6.out] at g6
      have hb6 : Below w.heap.size w W6 := by rw [← HW6.out]; exact abvia h4 ((abal _ _).mono (Nat.le_refl _))
      obtain ⟨ob, HOB⟩ : ∃ z, Hid (wr.heap.size = z) := ⟨_, rfl⟩
      rw [HOB.out] at r6o
      have G6 := Lib.hid g6
      have R6O := Lib.hid r6o
      have R6N := Lib.hid r6N
      have B6 := Lib.hid hb6
      have HR6 : Hid (FrI w bb sb W6) := HR.out.via (by rw [← HW6.out]; exact abal _ _)
      clear hcs hck h1 h2 h3 h4 g6 r6o r6N hb6
      go_upto_region 8 with fail
      rw [HW6.out, HOB.out]
      have c0 := G6.out.cell R6O.out 0 _ rfl
      by_cases hk23 : kk ≠ 2 ∧ kk ≠ 3
      · have k2 : (kk != 2) = true := by simpa using hk23.1
        have k3 : (kk != 3) = true := by simpa using hk23.2
        clear d0 d1 d2 d3 d4 d5 d6
        go_wp2
        go_roundw
        case rel => first | exact ⟨k + 1, by omega, by go_num, HR6⟩ | ((repeat apply Exists.intro); exact ⟨⟨k + 1, by omega, by go_num, HR6⟩, rfl⟩)
        case measure => simp [RowKit.intOf] <;> omega
      have kcase : ((kk != 2) = false) ∨ ((kk != 2) = true ∧ (kk != 3) = false) := by
        by_cases e : kk = 2
        · subst e; left; rfl
        · have e3 : kk = 3 := by omega
          subst e3; right; exact ⟨rfl, rfl⟩
      clear hk23 d0 d1 d2 d3 d4 d5 d6
      go_cut [40] from 33 to 39 (fun v40 wx => v40 = .bool false ∧ wx = W6)
      case first =>
        rcases kcase with k2 | ⟨k2, k3⟩
        · go_wp2_with fail
          go_meet
          exact ⟨rfl, rfl⟩
        · go_wp2_with fail
          go_meet
          exact ⟨rfl, rfl⟩
      obtain ⟨rfl, hwc⟩ := hcut
      have hwc' := hwc.symm
      subst hwc'
      have SX : Hid (∀ wx, Below w.heap.size w wx → Calls Try.prog 22 #[.agg #[.slice sa sn sc, .slice aa an ac]] wx (RetB wx (.bool (shB ⟨sa, sn, sc, aa, an, ac, s, a⟩)))) := fun wx hb => short_any (HIX.out.below hb (Nat.le_refl _))
      have SY : Hid (∀ wx, Below w.heap.size w wx → Calls Try.prog 22 #[.agg #[.slice ta tn tc, .slice ba bn bc]] wx (RetB wx (.bool (shB ⟨ta, tn, tc, ba, bn, bc, t, b'⟩)))) := fun wx hb => short_any (HIY.out.below hb (Nat.le_refl _))
      have c3 := G6.out.cell R6O.out 3 _ rfl
      have c4 := G6.out.cell R6O.out 4 _ rfl
      obtain ⟨sh, HSH⟩ : ∃ z, Hid (shB ⟨sa, sn, sc, aa, an, ac, s, a⟩ = z) := ⟨_, rfl⟩
      obtain ⟨sg, HSG⟩ : ∃ z, Hid (shB ⟨ta, tn, tc, ba, bn, bc, t, b'⟩ = z) := ⟨_, rfl⟩
      rw [HSH.out] at SX
      rw [HSG.out] at SY
      have SXW := Lib.hid (SX.out W6 B6.out)
      go_wp2_with fail
      refine SXW.out.mono ?_; rintro e w7 ⟨rfl, hb7⟩
      have HR7 := Lib.hid (HR6.out.via hb7)
      have G7 := Lib.hid (G6.out.via hb7)
      have B7 : Hid (Below w.heap.size w w7) := B6.out.trans (hb7.mono B6.out.size)
      clear hb7 c0 c3 c4
      by_cases hsh : sh = false
      · subst hsh
        go_wp2
        go_roundw
        case rel => first | exact ⟨k + 1, by omega, by go_num, HR7⟩ | ((repeat apply Exists.intro); exact ⟨⟨k + 1, by omega, by go_num, HR7⟩, rfl⟩)
        case measure => simp [RowKit.intOf] <;> omega
      have hsh' : sh = true := by simpa using hsh
      subst hsh'
      have c5 := G7.out.cell R6O.out 5 _ rfl
      have c6 := G7.out.cell R6O.out 6 _ rfl
      have SYW := Lib.hid (SY.out w7 B7.out)
      go_wp2_with fail
      refine SYW.out.mono ?_; rintro e w8 ⟨rfl, hb8⟩
      have HR8 := Lib.hid (HR7.out.via hb8)
      have G8 := Lib.hid (G7.out.via hb8)
      have B8 : Hid (Below w.heap.size w w8) := B7.out.trans (hb8.mono B7.out.size)
      clear hb8 c5 c6 hsh
      by_cases hsg : sg = false
      · subst hsg
        go_wp2
        go_roundw
        case rel => first | exact ⟨k + 1, by omega, by go_num, HR8⟩ | ((repeat apply Exists.intro); exact ⟨⟨k + 1, by omega, by go_num, HR8⟩, rfl⟩)
        case measure => simp [RowKit.intOf] <;> omega
      have hsg' : sg = true := by simpa using hsg
      subst hsg'
      clear hsg HR6 HR7
      have CO := Lib.hid (own3_any (w := w8.drew) (A := ⟨sa, sn, sc, aa, an, ac, s, a⟩) (HIX.out.below B8.out.drew (Nat.le_refl _)))
      have CY : Hid (∀ wx, Below w.heap.size w wx → Calls Try.prog 23 #[.agg #[.slice ta tn tc, .slice ba bn bc]] wx (MadeA wx t b')) := fun wx hb => own3_any (A := ⟨ta, tn, tc, ba, bn, bc, t, b'⟩) (HIY.out.below hb (Nat.le_refl _))
      simp only [Ar.v] at CO
      have c3 := G8.out.cell R6O.out 3 _ rfl
      have c4 := G8.out.cell R6O.out 4 _ rfl
      have c5 := G8.out.cell R6O.out 5 _ rfl
      have c6 := G8.out.cell R6O.out 6 _ rfl
      go_upto_region 10 with fail
      go_cut [] from 51 to 58 (fun wx => ∃ (A2 A3 : Ar) (R9 : Nat × Nat × Nat → Rw), Hid (Hold w.heap.size wx R9 ∧ R9 (9, 0, 0) = ⟨75, 7, some ⟨ob, 0, none⟩, 1, 1, [.int .i64 kk, .int .i64 op, .int .i64 nn, vS A2, vA A2, vS A3, vA A3]⟩ ∧ R9 (9, 1, 0) = rowS A2 ∧ R9 (9, 1, 1) = rowA A2 ∧ R9 (9, 1, 2) = rowS A3 ∧ R9 (9, 1, 3) = rowA A3 ∧ (∀ t, t.1 ≠ 9 → R9 t = R t) ∧ A2.s = s ∧ A2.a = a ∧ ArOk A2 ∧ A3.s = t ∧ A3.a = b' ∧ ArOk A3 ∧ Below w.heap.size w wx))
      case first =>
        go_region_law (first
          | (go_simp; go_at_call 23; (with_reducible refine Calls.mono CO.out ?_); rintro e5 w5 ⟨⟨ca, cn, cc, da, dn, dc, s5, a5⟩, rfl, hI5, hs5, ha5, hO5, hb5⟩; dsimp only; simp only at hs5 ha5; have hs5' := hs5.symm; have ha5' := ha5.symm; subst hs5' ha5'; simp only [Ar.v]; have hH5 := (G8.out.via (adrew1 w8)).made hO5 hb5 (9, 1, 0) (9, 1, 1) (by simp); have hB5 : Below w.heap.size w w5 := B8.out.drew.trans (hb5.mono B8.out.size); have e05 := (updR_ne (R := updR R6 (9, 1, 0) (rowS ⟨ca, cn, cc, da, dn, dc, s, a⟩)) (t := (9, 1, 1)) (r := rowA ⟨ca, cn, cc, da, dn, dc, s, a⟩) (s := (9, 0, 0)) (by simp)).trans ((updR_ne (by simp)).trans R6O.out); have m1 := hH5.cell e05 5 _ rfl; have m2 := hH5.cell e05 6 _ rfl)
          | (go_simp; go_at_call 23; (with_reducible refine Calls.mono (CY.out w5 hB5) ?_); rintro e9 w9 ⟨⟨ea, en, ec, fA, fn, fc, s9, a9⟩, rfl, hI9, hs9, ha9, hO9, hb9⟩; dsimp only; simp only at hs9 ha9; have hs9' := hs9.symm; have ha9' := ha9.symm; subst hs9' ha9'; simp only [Ar.v]; have hH9 := hH5.made hO9 hb9 (9, 1, 2) (9, 1, 3) (by simp); have e09 := (updR_ne (R := updR (updR (updR R6 (9, 1, 0) (rowS ⟨ca, cn, cc, da, dn, dc, s, a⟩)) (9, 1, 1) (rowA ⟨ca, cn, cc, da, dn, dc, s, a⟩)) (9, 1, 2) (rowS ⟨ea, en, ec, fA, fn, fc, t, b'⟩)) (t := (9, 1, 3)) (r := rowA ⟨ea, en, ec, fA, fn, fc, t, b'⟩) (s := (9, 0, 0)) (by simp)).trans ((updR_ne (by simp)).trans e05); have q1 := hH9.cell e09 3 _ rfl; have q2 := hH9.cell e09 4 _ rfl; have q3 := hH9.cell e09 5 _ rfl; have q4 := hH9.cell e09 6 _ rfl; have q5 := hH9.frozen e09 3; have q6 := hH9.frozen e09 4; have q7 := hH9.frozen e09 5; have q8 := hH9.frozen e09 6))
        all_goals go_wp2_with fail
        all_goals go_meet
        all_goals
          have hp := hH9.put3456 e09 (.slice ca cn cc) (.slice da dn dc) (.slice ea en ec) (.slice fA fn fc)
          exact ⟨⟨ca, cn, cc, da, dn, dc, s, a⟩, ⟨ea, en, ec, fA, fn, fc, t, b'⟩, _, ⟨hp.1, updR_eq, (updR_ne (by simp)).trans ((updR_ne (by simp)).trans ((updR_ne (by simp)).trans ((updR_ne (by simp)).trans updR_eq))), (updR_ne (by simp)).trans ((updR_ne (by simp)).trans ((updR_ne (by simp)).trans updR_eq)), (updR_ne (by simp)).trans ((updR_ne (by simp)).trans updR_eq), (updR_ne (by simp)).trans updR_eq, fun t ht => (updR_ne (fun e => ht (by rw [e]))).trans ((updR_ne (fun e => ht (by rw [e]))).trans ((updR_ne (fun e => ht (by rw [e]))).trans ((updR_ne (fun e => ht (by rw [e]))).trans ((updR_ne (fun e => ht (by rw [e]))).trans (R6N.out t (fun e => ht (by rw [e]))))))), rfl, rfl, hI5.ok, rfl, rfl, hI9.ok, (hB5.trans (hb9.mono hB5.size)).trans hp.2⟩⟩
      case rest =>
        obtain ⟨A2, A3, R9, hF9⟩ := hcut
        obtain ⟨f0, f1', f2', f3, f4, f4b, f5, f6, f7', f8, f6b, f7b, f8b, f9⟩ := hF9.out
        obtain ⟨W9, hW9⟩ : ∃ z : World, z = wc := ⟨_, rfl⟩
        subst hW9
        obtain ⟨ca, cn, cc, da, dn, dc, s', a'⟩ := A2
        obtain ⟨ea, en, ec, fA, fn, fc, t', b2⟩ := A3
        simp only at f6 f7' f6b f7b
        subst f6 f7' f6b f7b
        simp only [vS, vA] at f1'
        have G9 := Lib.hid f0
        have P9O := Lib.hid f1'
        have P9S := Lib.hid f2'
        have P9A := Lib.hid f3
        have P9N := Lib.hid f4
        have P9M := Lib.hid f4b
        have P9B := Lib.hid (HB.out.congr (fun t ht => f5 t (by rw [ht]; omega)))
        have P9H := Lib.hid (HS.out.congr (fun t ht => f5 t (by rw [ht]; omega)))
        have OK9 := Lib.hid f8
        have OKM := Lib.hid f8b
        have B9 := Lib.hid f9
        clear f0 f1' f2' f3 f4 f4b f5 f8 f8b f9 hF9 G8 G7 G6 R6O R6N HB HS HH HL B6 B7 B8 CO CY HW6 c3 c4 c5 c6 SX SY SXW SYW HR8
        obtain ⟨fs, HFS⟩ : ∃ z, Hid ((if kk = 2 then amoS op t' b2 else adyS op s' a' t' b2) = z) := ⟨_, rfl⟩
        obtain ⟨fa, HFA⟩ : ∃ z, Hid ((if kk = 2 then amoA op t' b2 else adyA op s' a' t' b2) = z) := ⟨_, rfl⟩
        obtain ⟨fe, HFE⟩ : ∃ z, Hid ((if kk = 2 then amoE op t' b2 else adyE op s' a' t' b2) = z) := ⟨_, rfl⟩
        have CA9 := Lib.hid (asked5_any (G9.out.isA P9S.out P9A.out OK9.out) (G9.out.isA P9N.out P9M.out OKM.out) kk op nn)
        simp only [Opv.cells] at CA9
        rw [HFS.out, HFA.out, HFE.out] at CA9
        have o0 := G9.out.cell P9O.out 0 _ rfl
        have o1 := G9.out.cell P9O.out 1 _ rfl
        have o2 := G9.out.cell P9O.out 2 _ rfl
        have o3 := G9.out.cell P9O.out 3 _ rfl
        have o4 := G9.out.cell P9O.out 4 _ rfl
        have o5 := G9.out.cell P9O.out 5 _ rfl
        have o6 := G9.out.cell P9O.out 6 _ rfl
        go_wp2_with fail
        refine CA9.out.mono ?_; rintro e v10 ⟨⟨xsa, xsn, xsc, xaa, xan, xac, xs, xat⟩, rfl, hI, hs, ha, hO, hb⟩
        simp only at hs ha
        have hs' := hs.symm
        have ha' := ha.symm
        subst hs' ha'
        simp only [Ar.v]
        obtain ⟨R10, g, x1, x2, x3, xN⟩ := G9.out.answer hO hb (1, 3, K) (1, 4, K) (9, 2, 0) (by simp) (by simp) (by simp)
        have OK10 := Lib.hid hI.ok
        obtain ⟨W10, HW10⟩ : ∃ z, Hid (v10.alloc (.cells #[.slice xsa xsn xsc, .slice xaa xan xac] 55) = z) := ⟨_, rfl⟩
        have B10 : Hid (Below w.heap.size w W10) := by show Below _ _ _; rw [← HW10.out]; exact (B9.out.trans (hb.mono G9.out.base)).trans ((abal _ _).mono (Nat.le_trans G9.out.base hb.size))
        have G10 : Hid (Hold w.heap.size W10 R10) := by show Hold _ _ _; rw [← HW10.out]; exact g
        obtain ⟨k10, HK10⟩ : ∃ z, Hid (v10.heap.size = z) := ⟨_, rfl⟩
        rw [HK10.out] at x3
        have X110 := Lib.hid x1
        have X210 := Lib.hid x2
        have X310 := Lib.hid x3
        have N10 := Lib.hid xN
        have P10O := Lib.hid ((xN (9, 0, 0) (by simp) (by simp) (by simp)).trans P9O.out)
        have P10S := Lib.hid ((xN (9, 1, 0) (by simp) (by simp) (by simp)).trans P9S.out)
        have P10A := Lib.hid ((xN (9, 1, 1) (by simp) (by simp) (by simp)).trans P9A.out)
        have P10N := Lib.hid ((xN (9, 1, 2) (by simp) (by simp) (by simp)).trans P9N.out)
        have P10M := Lib.hid ((xN (9, 1, 3) (by simp) (by simp) (by simp)).trans P9M.out)
        have P10B := Lib.hid (P9B.out.congr' (xN _ (by simp) (by simp) (by simp)) (xN _ (by simp) (by simp) (by simp)) (xN _ (by simp) (by simp) (by simp)) (fun k hk => xN _ (by simp <;> omega) (by simp <;> omega) (by simp)) (fun k hk => xN _ (by simp <;> omega) (by simp <;> omega) (by simp)))
        have P10H := Lib.hid (P9H.out.congr' (xN _ (by simp) (by simp) (by simp)) (xN _ (by simp) (by simp) (by simp)) (xN _ (by simp) (by simp) (by simp)) (fun c k hc hk => xN _ (by simp <;> omega) (by simp <;> omega) (by simp)))
        clear hs ha hI hO hb g x1 x2 x3 xN
        go_upto_region 12 with fail
        rw [HW10.out, HK10.out]
        clear o0 o1 o2 o3 o4 o5 o6
        have CA10 := Lib.hid (asked5_any (G10.out.isA P10S.out P10A.out OK9.out) (G10.out.isA P10N.out P10M.out OKM.out) kk op nn)
        simp only [Opv.cells] at CA10
        rw [HFS.out, HFA.out, HFE.out] at CA10
        have o0 := G10.out.cell P10O.out 0 _ rfl
        have o1 := G10.out.cell P10O.out 1 _ rfl
        have o2 := G10.out.cell P10O.out 2 _ rfl
        have o3 := G10.out.cell P10O.out 3 _ rfl
        have o4 := G10.out.cell P10O.out 4 _ rfl
        have o5 := G10.out.cell P10O.out 5 _ rfl
        have o6 := G10.out.cell P10O.out 6 _ rfl
        go_wp2_with fail
        refine CA10.out.mono ?_; rintro e v11 ⟨⟨ysa, ysn, ysc, yaa, yan, yac, ys, yat⟩, rfl, hI, hs, ha, hO, hb⟩
        simp only at hs ha
        have hs' := hs.symm
        have ha' := ha.symm
        subst hs' ha'
        simp only [Ar.v]
        obtain ⟨R11, g, x1, x2, x3, xN⟩ := G10.out.answer hO hb (2, 3, Ks) (2, 4, Ks) (9, 3, 0) (by simp) (by simp) (by simp)
        have OK11 := Lib.hid hI.ok
        obtain ⟨W11, HW11⟩ : ∃ z, Hid (v11.alloc (.cells #[.slice ysa ysn ysc, .slice yaa yan yac] 55) = z) := ⟨_, rfl⟩
        have B11 : Hid (Below w.heap.size w W11) := by show Below _ _ _; rw [← HW11.out]; exact (B10.out.trans (hb.mono G10.out.base)).trans ((abal _ _).mono (Nat.le_trans G10.out.base hb.size))
        have G11 : Hid (Hold w.heap.size W11 R11) := by show Hold _ _ _; rw [← HW11.out]; exact g
        obtain ⟨k11, HK11⟩ : ∃ z, Hid (v11.heap.size = z) := ⟨_, rfl⟩
        rw [HK11.out] at x3
        have X111 := Lib.hid x1
        have X211 := Lib.hid x2
        have X311 := Lib.hid x3
        have N11 := Lib.hid xN
        have P11O := Lib.hid ((xN (9, 0, 0) (by simp) (by simp) (by simp)).trans P10O.out)
        have P11S := Lib.hid ((xN (9, 1, 0) (by simp) (by simp) (by simp)).trans P10S.out)
        have P11A := Lib.hid ((xN (9, 1, 1) (by simp) (by simp) (by simp)).trans P10A.out)
        have P11N := Lib.hid ((xN (9, 1, 2) (by simp) (by simp) (by simp)).trans P10N.out)
        have P11M := Lib.hid ((xN (9, 1, 3) (by simp) (by simp) (by simp)).trans P10M.out)
        have P11B := Lib.hid (P10B.out.congr' (xN _ (by simp) (by simp) (by simp)) (xN _ (by simp) (by simp) (by simp)) (xN _ (by simp) (by simp) (by simp)) (fun k hk => xN _ (by simp <;> omega) (by simp <;> omega) (by simp)) (fun k hk => xN _ (by simp <;> omega) (by simp <;> omega) (by simp)))
        have P11H := Lib.hid (P10H.out.congr' (xN _ (by simp) (by simp) (by simp)) (xN _ (by simp) (by simp) (by simp)) (xN _ (by simp) (by simp) (by simp)) (fun c k hc hk => xN _ (by simp <;> omega) (by simp <;> omega) (by simp)))
        clear hs ha hI hO hb g x1 x2 x3 xN
        go_upto_region 13 with fail
        rw [HW11.out, HK11.out]
        clear o0 o1 o2 o3 o4 o5 o6
        have CA11 := Lib.hid (asked5_any (G11.out.isA P11S.out P11A.out OK9.out) (G11.out.isA P11N.out P11M.out OKM.out) kk op nn)
        simp only [Opv.cells] at CA11
        rw [HFS.out, HFA.out, HFE.out] at CA11
        have o0 := G11.out.cell P11O.out 0 _ rfl
        have o1 := G11.out.cell P11O.out 1 _ rfl
        have o2 := G11.out.cell P11O.out 2 _ rfl
        have o3 := G11.out.cell P11O.out 3 _ rfl
        have o4 := G11.out.cell P11O.out 4 _ rfl
        have o5 := G11.out.cell P11O.out 5 _ rfl
        have o6 := G11.out.cell P11O.out 6 _ rfl
        go_wp2_with fail
        refine CA11.out.mono ?_; rintro e v12 ⟨⟨zsa, zsn, zsc, zaa, zan, zac, zs, zat⟩, rfl, hI, hs, ha, hO, hb⟩
        simp only at hs ha
        have hs' := hs.symm
        have ha' := ha.symm
        subst hs' ha'
        simp only [Ar.v]
        obtain ⟨R12, g, x1, x2, x3, xN⟩ := G11.out.answer hO hb (2, 3, Ks + 1) (2, 4, Ks + 1) (9, 4, 0) (by simp) (by simp) (by simp)
        have OK12 := Lib.hid hI.ok
        obtain ⟨W12, HW12⟩ : ∃ z, Hid (v12.alloc (.cells #[.slice zsa zsn zsc, .slice zaa zan zac] 55) = z) := ⟨_, rfl⟩
        have B12 : Hid (Below w.heap.size w W12) := by show Below _ _ _; rw [← HW12.out]; exact (B11.out.trans (hb.mono G11.out.base)).trans ((abal _ _).mono (Nat.le_trans G11.out.base hb.size))
        have G12 : Hid (Hold w.heap.size W12 R12) := by show Hold _ _ _; rw [← HW12.out]; exact g
        obtain ⟨k12, HK12⟩ : ∃ z, Hid (v12.heap.size = z) := ⟨_, rfl⟩
        rw [HK12.out] at x3
        have X112 := Lib.hid x1
        have X212 := Lib.hid x2
        have X312 := Lib.hid x3
        have N12 := Lib.hid xN
        have P12O := Lib.hid ((xN (9, 0, 0) (by simp) (by simp) (by simp)).trans P11O.out)
        have P12S := Lib.hid ((xN (9, 1, 0) (by simp) (by simp) (by simp)).trans P11S.out)
        have P12A := Lib.hid ((xN (9, 1, 1) (by simp) (by simp) (by simp)).trans P11A.out)
        have P12N := Lib.hid ((xN (9, 1, 2) (by simp) (by simp) (by simp)).trans P11N.out)
        have P12M := Lib.hid ((xN (9, 1, 3) (by simp) (by simp) (by simp)).trans P11M.out)
        have P12B := Lib.hid (P11B.out.congr' (xN _ (by simp) (by simp) (by simp)) (xN _ (by simp) (by simp) (by simp)) (xN _ (by simp) (by simp) (by simp)) (fun k hk => xN _ (by simp <;> omega) (by simp <;> omega) (by simp)) (fun k hk => xN _ (by simp <;> omega) (by simp <;> omega) (by simp)))
        have P12H := Lib.hid (P11H.out.congr' (xN _ (by simp) (by simp) (by simp)) (xN _ (by simp) (by simp) (by simp)) (xN _ (by simp) (by simp) (by simp)) (fun c k hc hk => xN _ (by simp <;> omega) (by simp <;> omega) (by simp)))
        clear hs ha hI hO hb g x1 x2 x3 xN
        go_upto_region 14 with fail
        rw [HW12.out, HK12.out]
        clear o0 o1 o2 o3 o4 o5 o6
        have XS12 : Hid (R12 (1, 3, K) = rowS ⟨xsa, xsn, xsc, xaa, xan, xac, fs, fa⟩) := ((N12.out _ (by simp) (by simp) (by simp)).trans (N11.out _ (by simp) (by simp) (by simp))).trans X110.out
        have XA12 : Hid (R12 (1, 4, K) = rowA ⟨xsa, xsn, xsc, xaa, xan, xac, fs, fa⟩) := ((N12.out _ (by simp) (by simp) (by simp)).trans (N11.out _ (by simp) (by simp) (by simp))).trans X210.out
        have XB12 : Hid (R12 (9, 2, 0) = boxR k10 ⟨xsa, xsn, xsc, xaa, xan, xac, fs, fa⟩) := ((N12.out _ (by simp) (by simp) (by simp)).trans (N11.out _ (by simp) (by simp) (by simp))).trans X310.out
        have YS12 : Hid (R12 (2, 3, Ks) = rowS ⟨ysa, ysn, ysc, yaa, yan, yac, fs, fa⟩) := (N12.out _ (by simp) (by simp) (by simp)).trans X111.out
        have YA12 : Hid (R12 (2, 4, Ks) = rowA ⟨ysa, ysn, ysc, yaa, yan, yac, fs, fa⟩) := (N12.out _ (by simp) (by simp) (by simp)).trans X211.out
        have YB12 : Hid (R12 (9, 3, 0) = boxR k11 ⟨ysa, ysn, ysc, yaa, yan, yac, fs, fa⟩) := (N12.out _ (by simp) (by simp) (by simp)).trans X311.out
        have CW := Lib.hid (own3_any (G12.out.isA YS12.out YA12.out OK11.out))
        simp only [Ar.v] at CW
        obtain ⟨o0, o1⟩ := G12.out.boxc YB12.out
        go_wp2_with fail
        refine CW.out.mono ?_; rintro e v13 ⟨⟨qsa, qsn, qsc, qaa, qan, qac, qs, qat⟩, rfl, hI, hs, ha, hO, hb⟩
        simp only at hs ha
        have hs' := hs.symm
        have ha' := ha.symm
        subst hs' ha'
        simp only [Ar.v]
        obtain ⟨R13, g, x1, x2, x3, xN⟩ := G12.out.answer hO hb (9, 5, 0) (9, 5, 1) (9, 6, 0) (by simp) (by simp) (by simp)
        have OK13 := Lib.hid hI.ok
        obtain ⟨W13, HW13⟩ : ∃ z, Hid (v13.alloc (.cells #[.slice qsa qsn qsc, .slice qaa qan qac] 55) = z) := ⟨_, rfl⟩
        have B13 : Hid (Below w.heap.size w W13) := by show Below _ _ _; rw [← HW13.out]; exact (B12.out.trans (hb.mono G12.out.base)).trans ((abal _ _).mono (Nat.le_trans G12.out.base hb.size))
        have G13 : Hid (Hold w.heap.size W13 R13) := by show Hold _ _ _; rw [← HW13.out]; exact g
        obtain ⟨k13, HK13⟩ : ∃ z, Hid (v13.heap.size = z) := ⟨_, rfl⟩
        rw [HK13.out] at x3
        have X113 := Lib.hid x1
        have X213 := Lib.hid x2
        have X313 := Lib.hid x3
        have N13 := Lib.hid xN
        have P13O := Lib.hid ((xN (9, 0, 0) (by simp) (by simp) (by simp)).trans P12O.out)
        have P13S := Lib.hid ((xN (9, 1, 0) (by simp) (by simp) (by simp)).trans P12S.out)
        have P13A := Lib.hid ((xN (9, 1, 1) (by simp) (by simp) (by simp)).trans P12A.out)
        have P13N := Lib.hid ((xN (9, 1, 2) (by simp) (by simp) (by simp)).trans P12N.out)
        have P13M := Lib.hid ((xN (9, 1, 3) (by simp) (by simp) (by simp)).trans P12M.out)
        have P13B := Lib.hid (P12B.out.congr' (xN _ (by simp) (by simp) (by simp)) (xN _ (by simp) (by simp) (by simp)) (xN _ (by simp) (by simp) (by simp)) (fun k hk => xN _ (by simp <;> omega) (by simp <;> omega) (by simp)) (fun k hk => xN _ (by simp <;> omega) (by simp <;> omega) (by simp)))
        have P13H := Lib.hid (P12H.out.congr' (xN _ (by simp) (by simp) (by simp)) (xN _ (by simp) (by simp) (by simp)) (xN _ (by simp) (by simp) (by simp)) (fun c k hc hk => xN _ (by simp <;> omega) (by simp <;> omega) (by simp)))
        clear hs ha hI hO hb g x1 x2 x3 xN
        go_upto_region 15 with fail
        rw [HW13.out, HK13.out]
        clear o0 o1
        obtain ⟨R14, g14, h14, n14⟩ := G13.out.lay (2, 0, 1) (cs := #[.slice ysa ysn ysc, .slice yaa yan yac, .slice zsa zsn zsc, .slice zaa zan zac]) (E := 55) (sz := 2) (n := 2) rfl (by unfold maxLen; omega)
        obtain ⟨W14, HW14⟩ : ∃ z, Hid (W13.alloc (.cells #[.slice ysa ysn ysc, .slice yaa yan yac, .slice zsa zsn zsc, .slice zaa zan zac] 55) = z) := ⟨_, rfl⟩
        rw [HW14.out] at g14
        obtain ⟨k14, HK14⟩ : ∃ z, Hid (W13.heap.size = z) := ⟨_, rfl⟩
        rw [HK14.out] at h14
        have G14 := Lib.hid g14
        have B14 : Hid (Below w.heap.size w W14) := by show Below _ _ _; rw [← HW14.out]; exact B13.out.trans ((abal _ _).mono G13.out.base)
        have N14 := Lib.hid n14
        have P14H : Hid (Sh R14 2 sb Ks szs va wa) := P13H.out.congr' (n14 _ (by simp)) (n14 _ (by simp)) (n14 _ (by simp)) (fun c k hc hk => n14 _ (by simp <;> omega))
        have P14B : Hid (Bk R14 1 bb K sz) := P13B.out.congr (fun t ht => n14 _ (fun e => by rw [e] at ht; simp at ht))
        have CK := Lib.hid (keep_any (K := Ks) (ys := fun j => if j = 0 then ⟨ysa, ysn, ysc, yaa, yan, yac, fs, fa⟩ else ⟨zsa, zsn, zsc, zaa, zan, zac, fs, fa⟩) (n := 2) (ab := k14) g14 P14H.out (by omega) (by rw [h14]; rfl) (fun j hj => by
          match j, hj with
          | 0, _ => exact ⟨((n14 _ (by simp)).trans (N13.out _ (by simp) (by simp) (by simp))).trans YS12.out, ((n14 _ (by simp)).trans (N13.out _ (by simp) (by simp) (by simp))).trans YA12.out⟩
          | 1, _ => exact ⟨((n14 _ (by simp)).trans (N13.out _ (by simp) (by simp) (by simp))).trans X112.out, ((n14 _ (by simp)).trans (N13.out _ (by simp) (by simp) (by simp))).trans X212.out⟩) (fun j hj => by
          match j, hj with
          | 0, _ => exact OK11.out
          | 1, _ => exact OK12.out))
        obtain ⟨o0, o1⟩ := G13.out.boxc ((N13.out _ (by simp) (by simp) (by simp)).trans YB12.out)
        obtain ⟨o2, o3⟩ := G13.out.boxc ((N13.out _ (by simp) (by simp) (by simp)).trans X312.out)
        clear g14 h14 n14
        go_wp2_with fail
        rw [HW14.out, HK14.out]
        refine CK.out.mono ?_; rintro e v15 ⟨rfl, ik, hik, Ks', szs', R15, va', wa', hM, h1, h2, h3, h4, h5, h6⟩
        have G15 := Lib.hid h1
        have P15H := Lib.hid h2
        have N15 := Lib.hid h3
        have B15 : Hid (Below w.heap.size w v15) := B14.out.trans h6
        have Y15 : Hid (R15 (2, 3, Ks) = rowS ⟨ysa, ysn, ysc, yaa, yan, yac, fs, fa⟩ ∧ R15 (2, 4, Ks) = rowA ⟨ysa, ysn, ysc, yaa, yan, yac, fs, fa⟩) := h5 0 (by omega)
        have P15B : Hid (Bk R15 1 bb K sz) := P14B.out.congr (fun t ht => h3 t (by omega))
        have N15c : Hid (∀ t, t.1 = 9 ∨ t.1 = 1 → R15 t = R13 t) := fun t ht => (h3 t (by omega)).trans (N14.out t (fun e => by rw [e] at ht; simp at ht))
        clear h1 h2 h3 h4 h5 h6 o0 o1 o2 o3
        go_upto_region 16 with fail
        have XB15 : Hid (R15 (9, 2, 0) = boxR k10 ⟨xsa, xsn, xsc, xaa, xan, xac, fs, fa⟩) := ((N15c.out _ (.inl rfl)).trans (N13.out _ (by simp) (by simp) (by simp))).trans XB12.out
        obtain ⟨o0, o1⟩ := G15.out.boxc XB15.out
        obtain ⟨R16, g16, h16, n16⟩ := G15.out.lay (1, 0, 1) (cs := #[.slice xsa xsn xsc, .slice xaa xan xac]) (E := 55) (sz := 2) (n := 1) rfl (by unfold maxLen; omega)
        obtain ⟨W16, HW16⟩ : ∃ z, Hid (v15.alloc (.cells #[.slice xsa xsn xsc, .slice xaa xan xac] 55) = z) := ⟨_, rfl⟩
        rw [HW16.out] at g16
        obtain ⟨k16, HK16⟩ : ∃ z, Hid (v15.heap.size = z) := ⟨_, rfl⟩
        rw [HK16.out] at h16
        have B16 : Hid (Below w.heap.size w W16) := by show Below _ _ _; rw [← HW16.out]; exact B15.out.trans ((abal _ _).mono G15.out.base)
        have P16B : Bk R16 1 bb K sz := P15B.out.congr' (n16 _ (by simp)) (n16 _ (by simp)) (n16 _ (by simp)) (fun k hk => n16 _ (by simp)) (fun k hk => n16 _ (by simp))
        have N16 := Lib.hid n16
        have CT := Lib.hid (take_any g16 P16B (((n16 _ (by simp)).trans (N15c.out _ (.inr rfl))).trans ((N13.out _ (by simp) (by simp) (by simp)).trans XS12.out)) (((n16 _ (by simp)).trans (N15c.out _ (.inr rfl))).trans ((N13.out _ (by simp) (by simp) (by simp)).trans XA12.out)) OK10.out.b1 OK10.out.b2 h16)
        clear g16 h16 n16 P16B
        go_wp2_with fail
        rw [HW16.out, HK16.out]
        refine CT.out.mono ?_; rintro e v17 ⟨rfl, K', sz', R17, -, -, h1, h2, h3, h4⟩
        have G17 := Lib.hid h1
        have P17B := Lib.hid h2
        have N17 : Hid (∀ t, t.1 ≠ 1 → R17 t = R15 t) := fun t ht => (h3 t ht).trans (N16.out t (fun e => by rw [e] at ht; simp at ht))
        have B17 : Hid (Below w.heap.size w v17) := B16.out.trans h4
        have P17H : Hid (Sh R17 2 sb Ks' szs' va' wa') := P15H.out.congr (fun t ht => N17.out t (by omega))
        have N17c : Hid (∀ t, t.1 = 9 → R17 t = R13 t) := fun t ht => (N17.out t (by omega)).trans (N15c.out t (.inl ht))
        have P17O := Lib.hid ((N17c.out (9, 0, 0) rfl).trans P13O.out)
        have P17S := Lib.hid ((N17c.out (9, 1, 0) rfl).trans P13S.out)
        have P17A := Lib.hid ((N17c.out (9, 1, 1) rfl).trans P13A.out)
        have P17N := Lib.hid ((N17c.out (9, 1, 2) rfl).trans P13N.out)
        have P17M := Lib.hid ((N17c.out (9, 1, 3) rfl).trans P13M.out)
        clear h1 h2 h3 h4 o0 o1
        go_upto_region 17 with fail
        have CA17 := Lib.hid (asked5_any (G17.out.isA P17S.out P17A.out OK9.out) (G17.out.isA P17N.out P17M.out OKM.out) kk op nn)
        simp only [Opv.cells] at CA17
        rw [HFS.out, HFA.out, HFE.out] at CA17
        have o0 := G17.out.cell P17O.out 0 _ rfl
        have o1 := G17.out.cell P17O.out 1 _ rfl
        have o2 := G17.out.cell P17O.out 2 _ rfl
        have o3 := G17.out.cell P17O.out 3 _ rfl
        have o4 := G17.out.cell P17O.out 4 _ rfl
        have o5 := G17.out.cell P17O.out 5 _ rfl
        have o6 := G17.out.cell P17O.out 6 _ rfl
        go_wp2_with fail
        refine CA17.out.mono ?_; rintro e v18 ⟨⟨usa, usn, usc, uaa, uan, uac, us, uat⟩, rfl, hI, hs, ha, hO, hb⟩
        simp only at hs ha
        have hs' := hs.symm
        have ha' := ha.symm
        subst hs' ha'
        simp only [Ar.v]
        obtain ⟨R18, g, x1, x2, x3, xN⟩ := G17.out.answer hO hb (9, 7, 0) (9, 7, 1) (9, 8, 0) (by simp) (by simp) (by simp)
        have OK18 := Lib.hid hI.ok
        obtain ⟨W18, HW18⟩ : ∃ z, Hid (v18.alloc (.cells #[.slice usa usn usc, .slice uaa uan uac] 55) = z) := ⟨_, rfl⟩
        have B18 : Hid (Below w.heap.size w W18) := by show Below _ _ _; rw [← HW18.out]; exact (B17.out.trans (hb.mono G17.out.base)).trans ((abal _ _).mono (Nat.le_trans G17.out.base hb.size))
        have G18 : Hid (Hold w.heap.size W18 R18) := by show Hold _ _ _; rw [← HW18.out]; exact g
        obtain ⟨k18, HK18⟩ : ∃ z, Hid (v18.heap.size = z) := ⟨_, rfl⟩
        rw [HK18.out] at x3
        have X118 := Lib.hid x1
        have X218 := Lib.hid x2
        have X318 := Lib.hid x3
        have N18 := Lib.hid xN
        have P18O := Lib.hid ((xN (9, 0, 0) (by simp) (by simp) (by simp)).trans P17O.out)
        have P18S := Lib.hid ((xN (9, 1, 0) (by simp) (by simp) (by simp)).trans P17S.out)
        have P18A := Lib.hid ((xN (9, 1, 1) (by simp) (by simp) (by simp)).trans P17A.out)
        have P18N := Lib.hid ((xN (9, 1, 2) (by simp) (by simp) (by simp)).trans P17N.out)
        have P18M := Lib.hid ((xN (9, 1, 3) (by simp) (by simp) (by simp)).trans P17M.out)
        have P18B := Lib.hid (P17B.out.congr' (xN _ (by simp) (by simp) (by simp)) (xN _ (by simp) (by simp) (by simp)) (xN _ (by simp) (by simp) (by simp)) (fun k hk => xN _ (by simp <;> omega) (by simp <;> omega) (by simp)) (fun k hk => xN _ (by simp <;> omega) (by simp <;> omega) (by simp)))
        have P18H := Lib.hid (P17H.out.congr' (xN _ (by simp) (by simp) (by simp)) (xN _ (by simp) (by simp) (by simp)) (xN _ (by simp) (by simp) (by simp)) (fun c k hc hk => xN _ (by simp <;> omega) (by simp <;> omega) (by simp)))
        clear hs ha hI hO hb g x1 x2 x3 xN
        go_upto_region 18 with fail
        rw [HW18.out, HK18.out]
        clear o0 o1 o2 o3 o4 o5 o6
        have XV18 : Hid (R18 (9, 8, 0) = boxR k18 ⟨usa, usn, usc, uaa, uan, uac, fs, fa⟩) := X318
        have XQ18 : Hid (R18 (9, 6, 0) = boxR k13 ⟨qsa, qsn, qsc, qaa, qan, qac, fs, fa⟩) := ((N18.out _ (by simp) (by simp) (by simp)).trans (N17c.out _ rfl)).trans X313.out
        have XY18 : Hid (R18 (9, 3, 0) = boxR k11 ⟨ysa, ysn, ysc, yaa, yan, yac, fs, fa⟩) := ((N18.out _ (by simp) (by simp) (by simp)).trans (N17c.out _ rfl)).trans ((N13.out _ (by simp) (by simp) (by simp)).trans YB12.out)
        have QS18 : Hid (R18 (9, 5, 0) = rowS ⟨qsa, qsn, qsc, qaa, qan, qac, fs, fa⟩ ∧ R18 (9, 5, 1) = rowA ⟨qsa, qsn, qsc, qaa, qan, qac, fs, fa⟩) := ⟨((N18.out _ (by simp) (by simp) (by simp)).trans (N17c.out _ rfl)).trans X113.out, ((N18.out _ (by simp) (by simp) (by simp)).trans (N17c.out _ rfl)).trans X213.out⟩
        have YS18 : Hid (R18 (2, 3, Ks) = rowS ⟨ysa, ysn, ysc, yaa, yan, yac, fs, fa⟩ ∧ R18 (2, 4, Ks) = rowA ⟨ysa, ysn, ysc, yaa, yan, yac, fs, fa⟩) := ⟨((N18.out _ (by simp) (by simp) (by simp)).trans (N17.out _ (by simp))).trans Y15.out.1, ((N18.out _ (by simp) (by simp) (by simp)).trans (N17.out _ (by simp))).trans Y15.out.2⟩
        have KC : Hid (∀ wx, Below W18.heap.size W18 wx → wx.cell? ⟨k18, 0, none⟩ = some (.slice usa usn usc) ∧ wx.cell? ⟨k18, 1, none⟩ = some (.slice uaa uan uac) ∧ wx.cell? ⟨k13, 0, none⟩ = some (.slice qsa qsn qsc) ∧ wx.cell? ⟨k13, 1, none⟩ = some (.slice qaa qan qac) ∧ wx.cell? ⟨k11, 0, none⟩ = some (.slice ysa ysn ysc) ∧ wx.cell? ⟨k11, 1, none⟩ = some (.slice yaa yan yac) ∧ wx.cell? ⟨ob, 3, none⟩ = some (.slice ca cn cc) ∧ wx.cell? ⟨ob, 4, none⟩ = some (.slice da dn dc) ∧ wx.cell? ⟨ob, 5, none⟩ = some (.slice ea en ec) ∧ wx.cell? ⟨ob, 6, none⟩ = some (.slice fA fn fc) ∧ wx.cell? ⟨b, off + k * 7 + 3, none⟩ = some (.slice sa sn sc) ∧ wx.cell? ⟨b, off + k * 7 + 4, none⟩ = some (.slice aa an ac) ∧ wx.cell? ⟨b, off + k * 7 + 5, none⟩ = some (.slice ta tn tc) ∧ wx.cell? ⟨b, off + k * 7 + 6, none⟩ = some (.slice ba bn bc)) := fun wx hb => by
          have hx := G18.out.via hb
          have hl : Below w.heap.size w wx := B18.out.trans (hb.mono G18.out.base)
          obtain ⟨y0, y1⟩ := hx.boxc XV18.out
          obtain ⟨y2, y3⟩ := hx.boxc XQ18.out
          obtain ⟨y4, y5⟩ := hx.boxc XY18.out
          exact ⟨y0, y1, y2, y3, y4, y5, hx.cell P18O.out 3 _ rfl, hx.cell P18O.out 4 _ rfl, hx.cell P18O.out 5 _ rfl, hx.cell P18O.out 6 _ rfl, by rw [Nat.add_assoc]; exact HSC.out wx hl 3 _ rfl, by rw [Nat.add_assoc]; exact HSC.out wx hl 4 _ rfl, by rw [Nat.add_assoc]; exact HSC.out wx hl 5 _ rfl, by rw [Nat.add_assoc]; exact HSC.out wx hl 6 _ rfl⟩
        have E1 : Hid (∀ wx, Below W18.heap.size W18 wx → Calls Try.prog 27 #[.agg #[.slice usa usn usc, .slice uaa uan uac], .agg #[.slice qsa qsn qsc, .slice qaa qan qac]] wx (RetB wx (.bool true))) := fun wx hb => by
          have hx := G18.out.via hb
          have hl : Below w.heap.size w wx := B18.out.trans (hb.mono G18.out.base)
          have h := eq_any (hx.isA X118.out X218.out OK18.out) (hx.isA QS18.out.1 QS18.out.2 OK13.out)
          simp only [Ar.v, and_self, decide_true] at h
          exact h
        have E2 : Hid (∀ wx, Below W18.heap.size W18 wx → Calls Try.prog 27 #[.agg #[.slice ysa ysn ysc, .slice yaa yan yac], .agg #[.slice qsa qsn qsc, .slice qaa qan qac]] wx (RetB wx (.bool true))) := fun wx hb => by
          have hx := G18.out.via hb
          have hl : Below w.heap.size w wx := B18.out.trans (hb.mono G18.out.base)
          have h := eq_any (hx.isA YS18.out.1 YS18.out.2 OK11.out) (hx.isA QS18.out.1 QS18.out.2 OK13.out)
          simp only [Ar.v, and_self, decide_true] at h
          exact h
        have E3 : Hid (∀ wx, Below W18.heap.size W18 wx → Calls Try.prog 27 #[.agg #[.slice ca cn cc, .slice da dn dc], .agg #[.slice sa sn sc, .slice aa an ac]] wx (RetB wx (.bool true))) := fun wx hb => by
          have hx := G18.out.via hb
          have hl : Below w.heap.size w wx := B18.out.trans (hb.mono G18.out.base)
          have h := eq_any (hx.isA P18S.out P18A.out OK9.out) (HIX.out.below hl (Nat.le_refl _))
          simp only [Ar.v, and_self, decide_true] at h
          exact h
        have E4 : Hid (∀ wx, Below W18.heap.size W18 wx → Calls Try.prog 27 #[.agg #[.slice ea en ec, .slice fA fn fc], .agg #[.slice ta tn tc, .slice ba bn bc]] wx (RetB wx (.bool true))) := fun wx hb => by
          have hx := G18.out.via hb
          have hl : Below w.heap.size w wx := B18.out.trans (hb.mono G18.out.base)
          have h := eq_any (hx.isA P18N.out P18M.out OKM.out) (HIY.out.below hl (Nat.le_refl _))
          simp only [Ar.v, and_self, decide_true] at h
          exact h
        obtain ⟨z0, z1, z2, z3, z4, z5, z6, z7, z8, z9, z10, z11, z12, z13⟩ := KC.out W18 (Below.refl _ _)
        have hd1 : Below W18.heap.size W18 W18.drew := adrew1 _
        go_region_held3 (fun wx => wx.cell? ⟨k18, 0, none⟩ = some (.slice usa usn usc) ∧ wx.cell? ⟨k18, 1, none⟩ = some (.slice uaa uan uac) ∧ wx.cell? ⟨k13, 0, none⟩ = some (.slice qsa qsn qsc) ∧ wx.cell? ⟨k13, 1, none⟩ = some (.slice qaa qan qac) ∧ wx.cell? ⟨k11, 0, none⟩ = some (.slice ysa ysn ysc) ∧ wx.cell? ⟨k11, 1, none⟩ = some (.slice yaa yan yac) ∧ wx.cell? ⟨ob, 3, none⟩ = some (.slice ca cn cc) ∧ wx.cell? ⟨ob, 4, none⟩ = some (.slice da dn dc) ∧ wx.cell? ⟨ob, 5, none⟩ = some (.slice ea en ec) ∧ wx.cell? ⟨ob, 6, none⟩ = some (.slice fA fn fc) ∧ wx.cell? ⟨b, off + k * 7 + 3, none⟩ = some (.slice sa sn sc) ∧ wx.cell? ⟨b, off + k * 7 + 4, none⟩ = some (.slice aa an ac) ∧ wx.cell? ⟨b, off + k * 7 + 5, none⟩ = some (.slice ta tn tc) ∧ wx.cell? ⟨b, off + k * 7 + 6, none⟩ = some (.slice ba bn bc)) (go_keep)
          (first
          | (go_at_call 27; (with_reducible refine Calls.mono (E1.out _ ?_) ?_); (assumption); rintro e w2 ⟨rfl, hb2⟩; have hB2 := abvia (w := W18) (by assumption) hb2; clear hb2 z0 z1 z2 z3 z4 z5 z6 z7 z8 z9 z10 z11 z12 z13; obtain ⟨z0, z1, z2, z3, z4, z5, z6, z7, z8, z9, z10, z11, z12, z13⟩ := KC.out w2 hB2)
          | (go_at_call 27; (with_reducible refine Calls.mono (E2.out _ ?_) ?_); (assumption); rintro e w2 ⟨rfl, hb2⟩; have hB2 := abvia (w := W18) (by assumption) hb2; clear hb2 z0 z1 z2 z3 z4 z5 z6 z7 z8 z9 z10 z11 z12 z13; obtain ⟨z0, z1, z2, z3, z4, z5, z6, z7, z8, z9, z10, z11, z12, z13⟩ := KC.out w2 hB2)
          | (go_at_call 27; (with_reducible refine Calls.mono (E3.out _ ?_) ?_); (assumption); rintro e w2 ⟨rfl, hb2⟩; have hB2 := abvia (w := W18) (by assumption) hb2; clear hb2 z0 z1 z2 z3 z4 z5 z6 z7 z8 z9 z10 z11 z12 z13; obtain ⟨z0, z1, z2, z3, z4, z5, z6, z7, z8, z9, z10, z11, z12, z13⟩ := KC.out w2 hB2)
          | (go_at_call 27; (with_reducible refine Calls.mono (E4.out _ ?_) ?_); (assumption); rintro e w2 ⟨rfl, hb2⟩; have hB2 := abvia (w := W18) (by assumption) hb2; clear hb2 z0 z1 z2 z3 z4 z5 z6 z7 z8 z9 z10 z11 z12 z13; obtain ⟨z0, z1, z2, z3, z4, z5, z6, z7, z8, z9, z10, z11, z12, z13⟩ := KC.out w2 hB2)
          )
        have HF : Hid (FrI w bb sb w2) := ⟨K', sz', Ks', szs', va', wa', R18, G18.out.via hB2, P18B.out, P18H.out, B18.out.trans (hB2.mono G18.out.base)⟩
        clear hB2 hd1 z0 z1 z2 z3 z4 z5 z6 z7 z8 z9 z10 z11 z12 z13
        go_wp2
        go_roundw
        case rel => first | exact ⟨k + 1, by omega, by go_num, HF⟩ | ((repeat apply Exists.intro); exact ⟨⟨k + 1, by omega, by go_num, HF⟩, rfl⟩)
        case measure => simp [RowKit.intOf] <;> omega
    · have hge : (n : Int) ≤ k := by omega
      obtain ⟨K, sz, Ks, szs, va, wa, R, h1, h2, h3, h4⟩ := HR.out
      have CE := Lib.hid (ends_any h1 h3 3 (by omega))
      have HB := Lib.hid h2
      have HL := Lib.hid h4
      clear h1 h2 h3 h4
      go_wp2_with fail
      refine CE.out.mono ?_; rintro e w3 ⟨rfl, R', g1, g2, g3⟩
      have CW := Lib.hid (bookWhole_any g1 (HB.out.congr (fun t ht => g2 t (by omega) (by omega))))
      have HF : Hid (Below w.heap.size w w3) := HL.out.trans g3
      clear g1 g2 g3
      go_wp2_with fail
      refine CW.out.mono ?_; rintro e w4 ⟨rfl, hw4⟩
      have hw4' := hw4.symm
      subst hw4'
      go_wp2
      go_ret
      exact RetB.mk rfl HF.out
end Go.Proofs.Ytdedbfbkakofgaa

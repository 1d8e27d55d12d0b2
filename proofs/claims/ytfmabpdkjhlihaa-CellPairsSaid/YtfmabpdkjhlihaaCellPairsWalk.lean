/- CellPairs: plain laws. CellPairs: the walk of the statement's function. -/
import Derived.Test.YtfmabpdkjhlihaaCellLaws
import Derived.Test.YtfmabpdkjhlihaaCellTwo
namespace Go.Proofs.Ytfmabpdkjhlihaa
open Go.RowKit Go.Lib
set_option linter.unusedVariables false
set_option linter.unusedSimpArgs false
attribute [local go_sem] alloc_drewN setCell_drewN
theorem plN_take {s t : List Int} {F : List Int} {q : Nat} (hs : ∀ i, i < q → s.getD i 0 = F.getD i 0) : ∀ k, k ≤ q → plN s (t.take q) k = plN F t k
  | 0, _ => rfl
  | k + 1, hk => by
    simp only [plN]
    rw [plN_take hs k (by omega), hs k (by omega)]
    have : (t.take q).getD k 0 = t.getD k 0 := by simp [List.getD, List.getElem?_take, show k < q by omega]
    rw [this]
/-- The place of a frame, seen in what the frame begins with. -/
theorem pairs_at {F f : List Int} {q : Nat} (hf : F.take q = f) (hq : q ≤ F.length) (hm : mayE F = 0) (i : Int) (hi : 0 ≤ i ∧ i < pr F) :
    plE f ((ixL F i).take q) = 0 ∧ plV f ((ixL F i).take q) = i / (pr F / pr f) ∧ 0 < pr f ∧ pr F = pr f * (pr F / pr f) := by
  have hF : f ++ F.drop q = F := by rw [← hf]; exact List.take_append_drop _ _
  have hfm : mayE f = 0 := by rw [← hF] at hm; exact (mayE_app hm).1
  have hs := pos_all (mayE_zero hm).1 (by omega)
  have hfl : f.length = q := by rw [← hf, List.length_take]; omega
  have hfd : ∀ j, j < q → f.getD j 0 = F.getD j 0 := fun j hj => by rw [← hf]; simp [List.getD, List.getElem?_take, hj]
  have htl : ((ixL F i).take q).length = f.length := by rw [List.length_take, ixL_len, hfl]; omega
  have hin : inR f ((ixL F i).take q) f.length := fun j hj => by
    have h := ixL_rng (p := i) hs j (by omega)
    have e : ((ixL F i).take q).getD j 0 = (ixL F i).getD j 0 := by simp [List.getD, List.getElem?_take, show j < q by omega]
    rw [e, hfd j (by omega)]
    exact h
  have hpp : pr F = pr f * pr (F.drop q) := by conv => lhs; rw [← hF]
                                               exact pr_app _ _
  have hd := pr_drop_pos hs q
  have hpf := pr_nonneg hfm
  have hpos : 0 < pr f := by
    rcases Int.lt_or_le 0 (pr f) with h | h
    · exact h
    · have : pr f = 0 := by omega
      rw [this, Int.zero_mul] at hpp; omega
  have hdiv : pr F / pr f = pr (F.drop q) := by rw [hpp]; exact Int.mul_ediv_cancel_left _ (by omega)
  refine ⟨by rw [plE, if_pos hfm, if_pos htl, if_pos hin], ?_, hpos, by rw [hdiv]; exact hpp⟩
  rw [plV, if_pos ⟨hfm, htl, hin⟩, hdiv, hfl, plN_take hfd q (Nat.le_refl _)]
  exact plN_ix hs hi q hq
/-- What agrees: the one begins with the other. -/
theorem ag_ok {s t : List Int} (h : agE s t = 0) : s.length ≤ (agL s t).length ∧ t.length ≤ (agL s t).length ∧ (agL s t).take s.length = s ∧ (agL s t).take t.length = t ∧ (agL s t = s ∨ agL s t = t) := by
  unfold agL agE at *
  by_cases h1 : s.length < t.length
  · simp only [if_pos h1] at *
    by_cases h2 : t.take s.length = s
    · simp only [if_pos h2]
      exact ⟨by omega, Nat.le_refl _, h2, List.take_length, by simp⟩
    · simp [h2] at h
  · simp only [if_neg h1] at *
    by_cases h2 : s.take t.length = t
    · simp only [if_pos h2]
      exact ⟨Nat.le_refl _, by omega, List.take_length, h2, by simp⟩
    · simp [h2] at h
theorem tw0_zero {α : Type} (x : List α) : tw0 0 x = x := if_pos rfl
theorem onE_bd (s a : List Int) : onE s a = 0 ∨ onE s a = 1 := by unfold onE; split <;> simp
/-- What Two answers, beside what One answers of each. -/
theorem two_plain (s a t b : List Int) (l r : Int) :
    ((onE s a ≠ 0 ∨ onE t b ≠ 0) → twE s a t b l r = 1) ∧
    (onE s a = 0 → onE t b = 0 → twE s a t b l r = agE (onF s a l) (onF t b r)) := by
  unfold twE onE
  constructor
  · intro h
    rw [if_neg]
    rintro ⟨h1, h2⟩
    rw [if_pos h1, if_pos h2] at h
    rcases h with h | h <;> exact h rfl
  · intro h1 h2
    rw [if_pos]
    constructor
    · by_cases h : amE s a = 0
      · exact h
      · rw [if_neg h] at h1; omega
    · by_cases h : amE t b = 0
      · exact h
      · rw [if_neg h] at h2; omega
theorem onF_may {s a : List Int} (r : Int) (h : onE s a = 0) : mayE (onF s a r) = 0 ∧ szE (onF s a r) = (onC s a r).length := by
  have hm : amE s a = 0 := by
    unfold onE at h
    by_cases h1 : amE s a = 0
    · exact h1
    · rw [if_neg h1] at h; omega
  obtain ⟨h1, -, h2, -⟩ := back_plain r hm
  exact ⟨h1, h2⟩
end Go.Proofs.Ytfmabpdkjhlihaa
namespace Go.Proofs.Ytfmabpdkjhlihaa
open Go.RowKit Go.Lib
set_option linter.unusedVariables false
set_option linter.unusedSimpArgs false
attribute [local go_sem] alloc_drewN setCell_drewN
set_option maxRecDepth 100000 in
set_option maxHeartbeats 6400000 in
theorem walkCellPairs {w : World} {X : Ar} (hX : X.Is w) {Y : Ar} (hY : Y.Is w) {l : Int} (hl : -9223372036854775808 ≤ l ∧ l ≤ 9223372036854775807) {r : Int} (hr : -9223372036854775808 ≤ r ∧ r ≤ 9223372036854775807) :
    Calls Try.prog 8 #[X.v, Y.v, .int .i64 l, .int .i64 r] w (RetB w (.bool true)) := by
  obtain ⟨sa, sn, sc, aa, an, ac, s, a⟩ := X
  obtain ⟨ta, tn, tc, ba, bn, bc, t, b⟩ := Y
  simp only [Ar.v]
  obtain ⟨W, HW⟩ : ∃ z, Hid ((w.alloc (.cells #[.slice sa sn sc, .slice aa an ac] 25)).alloc (.cells #[.slice ta tn tc, .slice ba bn bc] 25) = z) := ⟨_, rfl⟩
  have h0 := ((Sp.start Non w).alloc 25 2 1 #[.slice sa sn sc, .slice aa an ac] rfl (by decide)).alloc 25 2 1 #[.slice ta tn tc, .slice ba bn bc] rfl (by decide)
  rw [HW.out] at h0
  have H0_ := h0
  try simp only [List.cons_append, List.nil_append, List.set_cons_zero, List.set_cons_succ, List.map_cons, List.map_nil, List.getD_cons_zero, List.getD_cons_succ, World.size_alloc] at H0_
  have H0 := Lib.hid H0_
  clear H0_
  have BG := Lib.hid (begun4_any W)
  have CX1 := Lib.hid (fun w1 (hb : Below w.heap.size w w1) => one_any (hX.below hb (Nat.le_refl _)) l hl)
  have CY1 := Lib.hid (fun w1 (hb : Below w.heap.size w w1) => one_any (hY.below hb (Nat.le_refl _)) r hr)
  have CT1 := Lib.hid (fun w1 (hb : Below w.heap.size w w1) => two_any (hX.below hb (Nat.le_refl _)) (hY.below hb (Nat.le_refl _)) l r hl hr)
  simp only [Ar.v] at CX1 CY1 CT1
  obtain ⟨q1, q2⟩ := two_plain s a t b l r
  have m1 := onF_may (s := s) (a := a) l
  have m2 := onF_may (s := t) (a := b) r
  have eb1 := onE_bd s a
  have eb2 := onE_bd t b
  obtain ⟨E, HE⟩ : ∃ z, Hid (twE s a t b l r = z) := ⟨_, rfl⟩
  obtain ⟨e1, HE1⟩ : ∃ z, Hid (onE s a = z) := ⟨_, rfl⟩
  obtain ⟨e2, HE2⟩ : ∃ z, Hid (onE t b = z) := ⟨_, rfl⟩
  obtain ⟨f1, HF1⟩ : ∃ z, Hid (onF s a l = z) := ⟨_, rfl⟩
  obtain ⟨f2, HF2⟩ : ∃ z, Hid (onF t b r = z) := ⟨_, rfl⟩
  obtain ⟨i1, HI1⟩ : ∃ z, Hid (onI s a l = z) := ⟨_, rfl⟩
  obtain ⟨i2, HI2⟩ : ∃ z, Hid (onI t b r = z) := ⟨_, rfl⟩
  obtain ⟨z1, HZ1⟩ : ∃ z, Hid (onZ s a l = z) := ⟨_, rfl⟩
  obtain ⟨z2, HZ2⟩ : ∃ z, Hid (onZ t b r = z) := ⟨_, rfl⟩
  obtain ⟨c1, HC1⟩ : ∃ z, Hid (onC s a l = z) := ⟨_, rfl⟩
  obtain ⟨c2, HC2⟩ : ∃ z, Hid (onC t b r = z) := ⟨_, rfl⟩
  rw [HE1.out] at CX1 q1 q2 m1 eb1
  rw [HE2.out] at CY1 q1 q2 m2 eb2
  rw [HE.out] at CT1 q1 q2
  rw [HF1.out] at CX1 CT1 q2 m1
  rw [HF2.out] at CY1 CT1 q2 m2
  rw [HI1.out, HZ1.out, HC1.out] at CX1 CT1
  rw [HI2.out, HZ2.out, HC2.out] at CY1 CT1
  rw [HC1.out] at m1
  rw [HC2.out] at m2
  have Q1 := Lib.hid q1
  have Q2 := Lib.hid q2
  have M1 := Lib.hid m1
  have M2 := Lib.hid m2
  have EB := Lib.hid (And.intro eb1 eb2)
  clear hX hY h0 q1 q2 m1 m2 eb1 eb2 HE HE1 HE2 HF1 HF2 HI1 HI2 HZ1 HZ2 HC1 HC2
  go_enter Try.func8, Try.ntmps8
  go_wp2_with fail
  rw [HW.out]
  refine BG.out.mono ?_; rintro e w1 ⟨rfl, hb1⟩
  have H1_ := H0.out.via hb1
  try simp only [List.cons_append, List.nil_append, List.set_cons_zero, List.set_cons_succ, List.map_cons, List.map_nil, List.getD_cons_zero, List.getD_cons_succ, World.size_alloc] at H1_
  have H1 := Lib.hid H1_
  clear H1_
  have CT := Lib.hid (CT1.out w1 H1.out.belowN)
  have y0 := H1.out.cell (i := 0) rfl 0 _ rfl
  have y1 := H1.out.cell (i := 0) rfl 1 _ rfl
  have y2 := H1.out.cell (i := 1) rfl 0 _ rfl
  have y3 := H1.out.cell (i := 1) rfl 1 _ rfl
  clear hb1 CT1 BG H0
  go_wp2_with fail
  refine CT.out.mono ?_; rintro e w2 ⟨po, pn, pc, lo, ln, lc, ro, rn, rc, ⟨ga, gn, gc, ha, hn, hc, gs, hs⟩, ⟨ja, jn, jc, ka, kn, kc, js, ks⟩, As, Bs, rfl, h2, hAs, hBs, u1, u2, u3, u4⟩
  simp only at u1 u2 u3 u4
  have hln := (h2.ars (i := 1) rfl).len
  have hrn := (h2.ars (i := 2) rfl).len
  have H2_ := (H1.out.add h2).alloc 103 7 1 #[.slice po pn pc, .slice lo ln lc, .slice ro rn rc, .slice ga gn gc, .slice ha hn hc, .slice ja jn jc, .slice ka kn kc] rfl (by decide)
  try simp only [List.cons_append, List.nil_append, List.set_cons_zero, List.set_cons_succ, List.map_cons, List.map_nil, List.getD_cons_zero, List.getD_cons_succ, World.size_alloc] at H2_
  have H2 := Lib.hid H2_
  clear H2_
  have HTW := Lib.hid (And.intro hAs (And.intro hBs (And.intro u1 (And.intro u2 (And.intro u3 u4)))))
  have HLR := Lib.hid (And.intro hln hrn)
  have CX := Lib.hid (CX1.out (w2.alloc (.cells #[.slice po pn pc, .slice lo ln lc, .slice ro rn rc, .slice ga gn gc, .slice ha hn hc, .slice ja jn jc, .slice ka kn kc] 103)) H2.out.belowN)
  clear y0 y1 y2 y3 h2 hAs hBs u1 u2 u3 u4 hln hrn CT H1 CX1
  have y0 := H2.out.cell (i := 0) rfl 0 _ rfl
  have y1 := H2.out.cell (i := 0) rfl 1 _ rfl
  go_wp2_with fail
  refine CX.out.mono ?_; rintro e w3 ⟨fo, fn, fc, co, cn, cc, ⟨ma, mn, mc, na, nn, nc, ms, ns⟩, Cs, rfl, h3, hCs, u1, u2⟩
  simp only at u1 u2
  have hcn := (h3.ars (i := 1) rfl).len
  have H3_ := (H2.out.add h3).alloc 29 4 1 #[.slice fo fn fc, .slice co cn cc, .slice ma mn mc, .slice na nn nc] rfl (by decide)
  try simp only [List.cons_append, List.nil_append, List.set_cons_zero, List.set_cons_succ, List.map_cons, List.map_nil, List.getD_cons_zero, List.getD_cons_succ, World.size_alloc] at H3_
  have H3 := Lib.hid H3_
  clear H3_
  have HONE := Lib.hid (And.intro hCs (And.intro u1 (And.intro u2 hcn)))
  have CY := Lib.hid (CY1.out (w3.alloc (.cells #[.slice fo fn fc, .slice co cn cc, .slice ma mn mc, .slice na nn nc] 29)) H3.out.belowN)
  clear y0 y1 h3 hCs u1 u2 hcn CX H2 CY1
  have y2 := H3.out.cell (i := 1) rfl 0 _ rfl
  have y3 := H3.out.cell (i := 1) rfl 1 _ rfl
  go_wp2_with fail
  refine CY.out.mono ?_; rintro e w4 ⟨oo, on, oc, qo, qn, qc, ⟨va, vn, vc, xa, xn, xc, vs, xs⟩, Ds, rfl, h4, hDs, u1, u2⟩
  simp only at u1 u2
  have hqn := (h4.ars (i := 1) rfl).len
  have h5 := (H3.out.add h4).alloc 29 4 1 #[.slice oo on oc, .slice qo qn qc, .slice va vn vc, .slice xa xn xc] rfl (by decide)
  obtain ⟨U, HU⟩ : ∃ z, Hid (w4.alloc (.cells #[.slice oo on oc, .slice qo qn qc, .slice va vn vc, .slice xa xn xc] 29) = z) := ⟨_, rfl⟩
  rw [HU.out] at h5
  have H5_ := h5
  try simp only [List.cons_append, List.nil_append, List.set_cons_zero, List.set_cons_succ, List.map_cons, List.map_nil, List.getD_cons_zero, List.getD_cons_succ, World.size_alloc] at H5_
  have H5 := Lib.hid H5_
  clear H5_
  have HTWO := Lib.hid (And.intro hDs (And.intro u1 (And.intro u2 hqn)))
  clear y2 y3 h4 hDs u1 u2 hqn CY H3 h5
  by_cases hbad : e1 ≠ 0 ∨ e2 ≠ 0
  · have hE : E = 1 := Q1.out hbad
    subst hE
    have HF := Lib.hid (RetB.mk (w := w) (v := .bool true) (v' := .bool true) rfl H5.out.belowN)
    by_cases h1 : e1 = 0
    · have g2 : (e2 != 0) = true := by rcases hbad with h | h; exact absurd h1 h; simpa using h
      subst h1
      clear hbad
      go_wp2_with fail
      rw [HU.out]
      go_ret
      exact HF.out
    · have g1 : (e1 != 0) = true := by simpa using h1
      clear hbad h1
      go_wp2_with fail
      rw [HU.out]
      go_ret
      exact HF.out
  · obtain rfl : e1 = 0 := Classical.byContradiction fun h => hbad (.inl h)
    obtain rfl : e2 = 0 := Classical.byContradiction fun h => hbad (.inr h)
    have hE : E = agE f1 f2 := Q2.out rfl rfl
    obtain ⟨hf1, hz1⟩ := M1.out rfl
    obtain ⟨hf2, hz2⟩ := M2.out rfl
    have ca := agree_any (H5.out.ls (i := 8) rfl) (H5.out.ls (i := 12) rfl)
    obtain ⟨g, HG⟩ : ∃ z, Hid (agE f1 f2 = z) := ⟨_, rfl⟩
    obtain ⟨fr, HFR⟩ : ∃ z, Hid (agL f1 f2 = z) := ⟨_, rfl⟩
    rw [HG.out] at hE ca
    rw [HFR.out] at ca
    subst hE
    have CA := Lib.hid ca
    have v0 := H5.out.cell (i := 11) rfl 0 _ rfl
    have v4 := H5.out.cell (i := 15) rfl 0 _ rfl
    rw [← HU.out] at v0 v4
    have HM := Lib.hid (And.intro hf1 (And.intro hz1 (And.intro hf2 hz2)))
    clear hbad ca hf1 hz1 hf2 hz2 Q1 Q2 M1 M2 EB
    go_wp2_with fail
    rw [HU.out]
    refine CA.out.mono ?_; rintro e w6 ⟨uo, un, uc, rfl, hL6, hO6, hB6⟩
    have H6_ := H5.out.intsNew hO6 hB6 hL6.big hL6.rng
    try simp only [List.cons_append, List.nil_append, List.set_cons_zero, List.set_cons_succ, List.map_cons, List.map_nil, List.getD_cons_zero, List.getD_cons_succ, World.size_alloc] at H6_
    have H6 := Lib.hid H6_
    clear H6_
    clear v0 v4 hL6 hO6 hB6 H5 CA
    by_cases hg : E = 0
    · subst hg
      obtain ⟨k1, k2, k3, k4, k5, k6⟩ := HTW.out
      rw [tw0_zero] at k1 k2 k3 k4 k5 k6
      have h6 := H6.out
      rw [tw0_zero, HFR.out] at h6
      obtain ⟨d1, d2, d3, d4⟩ := HONE.out
      obtain ⟨d5, d6, d7, d8⟩ := HTWO.out
      obtain ⟨a1, a2, a3, a4, a5⟩ := ag_ok HG.out
      rw [HFR.out] at a1 a2 a3 a4 a5
      obtain ⟨b1, b2, b3, b4⟩ := HM.out
      have hfm : mayE fr = 0 := by rcases a5 with h | h <;> rw [h] <;> assumption
      have hfn : f1.length = fn := (h6.ls (i := 8) rfl).len
      have hon : f2.length = on := (h6.ls (i := 12) rfl).len
      have hun : fr.length = un := (h6.ls (i := 16) rfl).len
      have hprn := pr_nonneg hfm
      have hc1 : pr f1 = cn := by have h : szE f1 = c1.length := b2; unfold szE at h; rw [if_pos b1] at h; rw [h, ← d1, List.length_map, d4]
      have hc2 : pr f2 = qn := by have h : szE f2 = c2.length := b4; unfold szE at h; rw [if_pos b3] at h; rw [h, ← d5, List.length_map, d8]
      obtain ⟨N, hN⟩ : ∃ N : Nat, pr fr = N := ⟨(pr fr).toNat, by omega⟩
      have CE1 := eqints_any (h6.ls (i := 2) rfl) (h6.ls (i := 16) rfl)
      rw [decide_eq_true (show fr = fr from rfl)] at CE1
      have H7 := Lib.hid h6
      have HEQ := Lib.hid (And.intro (k1.trans d1.symm) (And.intro (k2.trans d5.symm) (And.intro (And.intro (k3.trans d2.symm) (k4.trans d3.symm)) (And.intro (k5.trans d6.symm) (k6.trans d7.symm)))))
      have HPL : Hid (∀ k : Nat, k < N → plE f1 ((ixL fr k).take fn) = 0 ∧ plE f2 ((ixL fr k).take on) = 0 ∧ 0 < cn ∧ 0 < qn ∧ N = cn * (N / cn) ∧ N = qn * (N / qn) ∧ plV f1 ((ixL fr k).take fn) = ((k / (N / cn) : Nat) : Int) ∧ plV f2 ((ixL fr k).take on) = ((k / (N / qn) : Nat) : Int)) := by
        intro k hk
        obtain ⟨x1, x2, x3, x4⟩ := pairs_at (F := fr) (f := f1) (q := fn) (by rw [← hfn]; exact a3) (by omega) hfm (k : Int) (by omega)
        obtain ⟨z1', z2', z3', z4'⟩ := pairs_at (F := fr) (f := f2) (q := on) (by rw [← hon]; exact a4) (by omega) hfm (k : Int) (by omega)
        rw [hN, hc1] at x2 x4
        rw [hN, hc2] at z2' z4'
        rw [hc1] at x3
        rw [hc2] at z3'
        exact ⟨x1, z1', by omega, by omega, by exact_mod_cast x4, by exact_mod_cast z4', by rw [x2]; norm_cast, by rw [z2']; norm_cast⟩
      have HAT : Hid (∀ k : Nat, k < N → atL fr k = ixL fr k ∧ atE fr k = 0) := fun k hk => ⟨by rw [atL, if_pos ⟨hfm, by omega, by omega⟩], by rw [atE, if_pos hfm, if_pos ⟨by omega, by omega⟩]⟩
      have HSZ : Hid (szE fr = N ∧ mayE fr = 0) := ⟨by unfold szE; rw [if_pos hfm, hN], hfm⟩
      have HUN : Hid (fn ≤ un ∧ on ≤ un ∧ fr.length = un) := ⟨by omega, by omega, hun⟩
      have hNb : N ≤ 4096 := by omega
      have CE := Lib.hid CE1
      have p0 := H7.out.cell (i := 7) rfl 0 _ rfl
      have p1 := H7.out.cell (i := 7) rfl 1 _ rfl
      have p2 := H7.out.cell (i := 7) rfl 2 _ rfl
      have p3 := H7.out.cell (i := 7) rfl 3 _ rfl
      have p4 := H7.out.cell (i := 7) rfl 4 _ rfl
      have p5 := H7.out.cell (i := 7) rfl 5 _ rfl
      have p6 := H7.out.cell (i := 7) rfl 6 _ rfl
      have r0 := H7.out.cell (i := 11) rfl 0 _ rfl
      have r1 := H7.out.cell (i := 11) rfl 1 _ rfl
      have r2 := H7.out.cell (i := 11) rfl 2 _ rfl
      have r3 := H7.out.cell (i := 11) rfl 3 _ rfl
      have s0 := H7.out.cell (i := 15) rfl 0 _ rfl
      have s1 := H7.out.cell (i := 15) rfl 1 _ rfl
      have s2 := H7.out.cell (i := 15) rfl 2 _ rfl
      have s3 := H7.out.cell (i := 15) rfl 3 _ rfl
      clear CE1 k1 k2 k3 k4 k5 k6 h6 d1 d2 d3 d4 d5 d6 d7 d8 a1 a2 a3 a4 a5 b1 b2 b3 b4 hfm hfn hon hun hprn hc1 hc2 hN H6 HTW HONE HTWO HM HG HFR HLR
      go_wp2_with fail
      refine CE.out.mono ?_; rintro e w7 ⟨rfl, n7, hq⟩
      have H8 := Lib.hid (H7.out.via (show Below w6.heap.size w6 w7 from by rw [hq]; exact adrew _ _))
      clear hq CE
      clear p0 p1 p2 p3 p4 p5 p6 r0 r1 r2 r3 s0 s1 s2 s3
      have p0 := H8.out.cell (i := 7) rfl 0 _ rfl
      have p1 := H8.out.cell (i := 7) rfl 1 _ rfl
      have p2 := H8.out.cell (i := 7) rfl 2 _ rfl
      have p3 := H8.out.cell (i := 7) rfl 3 _ rfl
      have p4 := H8.out.cell (i := 7) rfl 4 _ rfl
      have p5 := H8.out.cell (i := 7) rfl 5 _ rfl
      have p6 := H8.out.cell (i := 7) rfl 6 _ rfl
      have r0 := H8.out.cell (i := 11) rfl 0 _ rfl
      have r1 := H8.out.cell (i := 11) rfl 1 _ rfl
      have r2 := H8.out.cell (i := 11) rfl 2 _ rfl
      have r3 := H8.out.cell (i := 11) rfl 3 _ rfl
      have s0 := H8.out.cell (i := 15) rfl 0 _ rfl
      have s1 := H8.out.cell (i := 15) rfl 1 _ rfl
      have s2 := H8.out.cell (i := 15) rfl 2 _ rfl
      have s3 := H8.out.cell (i := 15) rfl 3 _ rfl
      have ce := eqall4_any (H8.out.ars (i := 3) rfl) (H8.out.ars (i := 9) rfl)
      try simp only [Ar.v] at ce
      rw [decide_eq_true (show _ from HEQ.out.1)] at ce
      have CE := Lib.hid ce
      clear ce
      go_wp2_with fail
      refine CE.out.mono ?_; rintro e w8 ⟨rfl, hq⟩
      have H9 := Lib.hid (H8.out.via hq)
      clear hq CE H8
      clear p0 p1 p2 p3 p4 p5 p6 r0 r1 r2 r3 s0 s1 s2 s3
      have p0 := H9.out.cell (i := 7) rfl 0 _ rfl
      have p1 := H9.out.cell (i := 7) rfl 1 _ rfl
      have p2 := H9.out.cell (i := 7) rfl 2 _ rfl
      have p3 := H9.out.cell (i := 7) rfl 3 _ rfl
      have p4 := H9.out.cell (i := 7) rfl 4 _ rfl
      have p5 := H9.out.cell (i := 7) rfl 5 _ rfl
      have p6 := H9.out.cell (i := 7) rfl 6 _ rfl
      have r0 := H9.out.cell (i := 11) rfl 0 _ rfl
      have r1 := H9.out.cell (i := 11) rfl 1 _ rfl
      have r2 := H9.out.cell (i := 11) rfl 2 _ rfl
      have r3 := H9.out.cell (i := 11) rfl 3 _ rfl
      have s0 := H9.out.cell (i := 15) rfl 0 _ rfl
      have s1 := H9.out.cell (i := 15) rfl 1 _ rfl
      have s2 := H9.out.cell (i := 15) rfl 2 _ rfl
      have s3 := H9.out.cell (i := 15) rfl 3 _ rfl
      have ce := eqall4_any (H9.out.ars (i := 4) rfl) (H9.out.ars (i := 13) rfl)
      try simp only [Ar.v] at ce
      rw [decide_eq_true (show _ from HEQ.out.2.1)] at ce
      have CE := Lib.hid ce
      clear ce
      go_wp2_with fail
      refine CE.out.mono ?_; rintro e w9 ⟨rfl, hq⟩
      have H10 := Lib.hid (H9.out.via hq)
      clear hq CE H9
      clear p0 p1 p2 p3 p4 p5 p6 r0 r1 r2 r3 s0 s1 s2 s3
      have p0 := H10.out.cell (i := 7) rfl 0 _ rfl
      have p1 := H10.out.cell (i := 7) rfl 1 _ rfl
      have p2 := H10.out.cell (i := 7) rfl 2 _ rfl
      have p3 := H10.out.cell (i := 7) rfl 3 _ rfl
      have p4 := H10.out.cell (i := 7) rfl 4 _ rfl
      have p5 := H10.out.cell (i := 7) rfl 5 _ rfl
      have p6 := H10.out.cell (i := 7) rfl 6 _ rfl
      have r0 := H10.out.cell (i := 11) rfl 0 _ rfl
      have r1 := H10.out.cell (i := 11) rfl 1 _ rfl
      have r2 := H10.out.cell (i := 11) rfl 2 _ rfl
      have r3 := H10.out.cell (i := 11) rfl 3 _ rfl
      have s0 := H10.out.cell (i := 15) rfl 0 _ rfl
      have s1 := H10.out.cell (i := 15) rfl 1 _ rfl
      have s2 := H10.out.cell (i := 15) rfl 2 _ rfl
      have s3 := H10.out.cell (i := 15) rfl 3 _ rfl
      have ce := eq4_any (H10.out.isA (i := 5) rfl) (H10.out.isA (i := 10) rfl)
      try simp only [Ar.v] at ce
      rw [decide_eq_true (show _ from HEQ.out.2.2.1)] at ce
      have CE := Lib.hid ce
      clear ce
      go_wp2_with fail
      refine CE.out.mono ?_; rintro e w10 ⟨rfl, hq⟩
      have H11 := Lib.hid (H10.out.via hq)
      clear hq CE H10
      clear p0 p1 p2 p3 p4 p5 p6 r0 r1 r2 r3 s0 s1 s2 s3
      have p0 := H11.out.cell (i := 7) rfl 0 _ rfl
      have p1 := H11.out.cell (i := 7) rfl 1 _ rfl
      have p2 := H11.out.cell (i := 7) rfl 2 _ rfl
      have p3 := H11.out.cell (i := 7) rfl 3 _ rfl
      have p4 := H11.out.cell (i := 7) rfl 4 _ rfl
      have p5 := H11.out.cell (i := 7) rfl 5 _ rfl
      have p6 := H11.out.cell (i := 7) rfl 6 _ rfl
      have r0 := H11.out.cell (i := 11) rfl 0 _ rfl
      have r1 := H11.out.cell (i := 11) rfl 1 _ rfl
      have r2 := H11.out.cell (i := 11) rfl 2 _ rfl
      have r3 := H11.out.cell (i := 11) rfl 3 _ rfl
      have s0 := H11.out.cell (i := 15) rfl 0 _ rfl
      have s1 := H11.out.cell (i := 15) rfl 1 _ rfl
      have s2 := H11.out.cell (i := 15) rfl 2 _ rfl
      have s3 := H11.out.cell (i := 15) rfl 3 _ rfl
      have ce := eq4_any (H11.out.isA (i := 6) rfl) (H11.out.isA (i := 14) rfl)
      try simp only [Ar.v] at ce
      rw [decide_eq_true (show _ from HEQ.out.2.2.2)] at ce
      have CE := Lib.hid ce
      clear ce
      go_wp2_with fail
      refine CE.out.mono ?_; rintro e w11 ⟨rfl, hq⟩
      have H12 := Lib.hid (H11.out.via hq)
      clear hq CE H11
      clear p0 p1 p2 p3 p4 p5 p6 r0 r1 r2 r3 s0 s1 s2 s3
      have p0 := H12.out.cell (i := 7) rfl 0 _ rfl
      have p1 := H12.out.cell (i := 7) rfl 1 _ rfl
      have p2 := H12.out.cell (i := 7) rfl 2 _ rfl
      have p3 := H12.out.cell (i := 7) rfl 3 _ rfl
      have p4 := H12.out.cell (i := 7) rfl 4 _ rfl
      have p5 := H12.out.cell (i := 7) rfl 5 _ rfl
      have p6 := H12.out.cell (i := 7) rfl 6 _ rfl
      have r0 := H12.out.cell (i := 11) rfl 0 _ rfl
      have r1 := H12.out.cell (i := 11) rfl 1 _ rfl
      have r2 := H12.out.cell (i := 11) rfl 2 _ rfl
      have r3 := H12.out.cell (i := 11) rfl 3 _ rfl
      have s0 := H12.out.cell (i := 15) rfl 0 _ rfl
      have s1 := H12.out.cell (i := 15) rfl 1 _ rfl
      have s2 := H12.out.cell (i := 15) rfl 2 _ rfl
      have s3 := H12.out.cell (i := 15) rfl 3 _ rfl
      have h13 : Sp Non w w11 [Pt.ints 3 fo fn fc f1, Pt.row ⟨29, 4, some ⟨w3.heap.size, 0, none⟩, 1, 1, [.slice fo fn fc, .slice co cn cc, .slice ma mn mc, .slice na nn nc]⟩, Pt.ints 3 oo on oc f2, Pt.row ⟨29, 4, some ⟨w4.heap.size, 0, none⟩, 1, 1, [.slice oo on oc, .slice qo qn qc, .slice va vn vc, .slice xa xn xc]⟩, Pt.ints 3 uo un uc fr] := H12.out.pick [8, 11, 12, 15, 16] (by decide)
      have H13 := Lib.hid h13
      have cs := size_any (H13.out.ls (i := 4) rfl)
      rw [HSZ.out.1, HSZ.out.2] at cs
      have CS := Lib.hid cs
      clear h13 cs H12 H7 p0 p1 p2 p3 p4 p5 p6 r0 r1 r2 r3 s0 s1 s2 s3 HEQ
      go_wp2_with fail
      refine CS.out.mono ?_; rintro e w12 ⟨rfl, hw12⟩
      have hw12' := hw12.symm
      subst hw12'
      clear CS hw12
      go_wp2_with fail
      go_loopw [19] (fun v wr => ∃ k : Nat, k ≤ N ∧ v = .int .i64 k ∧ Hid (Sp Non w wr [Pt.ints 3 fo fn fc f1, Pt.row ⟨29, 4, some ⟨w3.heap.size, 0, none⟩, 1, 1, [.slice fo fn fc, .slice co cn cc, .slice ma mn mc, .slice na nn nc]⟩, Pt.ints 3 oo on oc f2, Pt.row ⟨29, 4, some ⟨w4.heap.size, 0, none⟩, 1, 1, [.slice oo on oc, .slice qo qn qc, .slice va vn vc, .slice xa xn xc]⟩, Pt.ints 3 uo un uc fr])) (fun v _ => N - (RowKit.intOf v).toNat)
      case atStart => exact ⟨0, by omega, rfl, H13⟩
      case round =>
        obtain ⟨k, hk, rfl, HO⟩ := hrel
        by_cases hlt : k < N
        · have ca := at_any (HO.out.ls (i := 4) rfl) (k : Int)
          rw [(HAT.out k hlt).1, (HAT.out k hlt).2] at ca
          have CA := Lib.hid ca
          obtain ⟨pl1, pl2, pc1, pc2, pn1, pn2, pv1, pv2⟩ := HPL.out k hlt
          have hlt' : (k : Int) < N := by omega
          obtain ⟨D1, hD1⟩ : ∃ z : Nat, N / cn = z := ⟨_, rfl⟩
          obtain ⟨D2, hD2⟩ : ∃ z : Nat, N / qn = z := ⟨_, rfl⟩
          rw [hD1] at pn1 pv1
          rw [hD2] at pn2 pv2
          obtain ⟨P1, hP1⟩ : ∃ z : Nat, k / D1 = z := ⟨_, rfl⟩
          obtain ⟨P2, hP2⟩ : ∃ z : Nat, k / D2 = z := ⟨_, rfl⟩
          rw [hP1] at pv1
          rw [hP2] at pv2
          have hD1p : 0 < D1 := by rcases Nat.eq_zero_or_pos D1 with h | h; (rw [h, Nat.mul_zero] at pn1; omega); exact h
          have hD2p : 0 < D2 := by rcases Nat.eq_zero_or_pos D2 with h | h; (rw [h, Nat.mul_zero] at pn2; omega); exact h
          have t1 : (N : Int).tdiv cn = D1 := by rw [← hD1]; exact (Int.ofNat_tdiv N cn).symm
          have t2 : (N : Int).tdiv qn = D2 := by rw [← hD2]; exact (Int.ofNat_tdiv N qn).symm
          have t3 : (k : Int).tdiv D1 = P1 := by rw [← hP1]; exact (Int.ofNat_tdiv k D1).symm
          have t4 : (k : Int).tdiv D2 = P2 := by rw [← hP2]; exact (Int.ofNat_tdiv k D2).symm
          have b1 : D1 ≤ N := by rw [← hD1]; exact Nat.div_le_self _ _
          have b2 : D2 ≤ N := by rw [← hD2]; exact Nat.div_le_self _ _
          have b3 : P1 ≤ k := by rw [← hP1]; exact Nat.div_le_self _ _
          have b4 : P2 ≤ k := by rw [← hP2]; exact Nat.div_le_self _ _
          have n1 : ¬ cn = 0 := by omega
          have n2 : ¬ qn = 0 := by omega
          have n3 : ¬ D1 = 0 := by omega
          have z7 : ((cn : Int) == 0) = false := by simpa using n1
          have z8 : ((qn : Int) == 0) = false := by simpa using n2
          have n4 : ¬ D2 = 0 := by omega
          have HPV := Lib.hid (And.intro pl1 (And.intro pl2 (And.intro pv1 pv2)))
          clear ca pl1 pl2 pn1 pn2 pv1 pv2 hD1 hD2 hP1 hP2
          go_wp2_with fail
          refine CA.out.mono ?_; rintro e v1 ⟨ao, n9, c9, rfl, hL, hO, hB⟩
          have hn9 : n9 = un := by have := hL.len; rw [ixL_len, HUN.out.2.2] at this; exact this.symm
          subst hn9
          have HR_ := HO.out.intsNew hO hB hL.big hL.rng
          try simp only [List.cons_append, List.nil_append, List.set_cons_zero, List.set_cons_succ, List.map_cons, List.map_nil, List.getD_cons_zero, List.getD_cons_succ, World.size_alloc] at HR_
          have HR := Lib.hid HR_
          clear HR_
          have HR1_ := HR.out.via (adrew1 _)
          try simp only [List.cons_append, List.nil_append, List.set_cons_zero, List.set_cons_succ, List.map_cons, List.map_nil, List.getD_cons_zero, List.getD_cons_succ, World.size_alloc] at HR1_
          have HR1 := Lib.hid HR1_
          clear HR1_
          have HR2_ := HR1.out.via (adrew1 _)
          try simp only [List.cons_append, List.nil_append, List.set_cons_zero, List.set_cons_succ, List.map_cons, List.map_nil, List.getD_cons_zero, List.getD_cons_succ, World.size_alloc] at HR2_
          have HR2 := Lib.hid HR2_
          clear HR2_
          have cp1 := place_any (HR1.out.ls (i := 0) rfl) ((HR1.out.ls (i := 5) rfl).take HUN.out.1)
          have cp2 := place_any (HR2.out.ls (i := 2) rfl) ((HR2.out.ls (i := 5) rfl).take HUN.out.2.1)
          rw [HPV.out.1, HPV.out.2.2.1] at cp1
          rw [HPV.out.2.1, HPV.out.2.2.2] at cp2
          have CP1 := Lib.hid cp1
          have CP2 := Lib.hid cp2
          have hcap := hL.cap
          have u1 : (fn : Int) ≤ c9 := by have := HUN.out.1; omega
          have u2 : (on : Int) ≤ c9 := by have := HUN.out.2.1; omega
          have r0 := HR.out.cell (i := 1) rfl 0 _ rfl
          have r1 := HR.out.cell (i := 1) rfl 1 _ rfl
          have s0 := HR.out.cell (i := 3) rfl 0 _ rfl
          have s1 := HR.out.cell (i := 3) rfl 1 _ rfl
          clear cp1 cp2 hL hO hB hcap CA
          go_wp2_with fail
          go_region_held3 (fun w'' => w''.cell? ⟨w3.heap.size, 0, none⟩ = some (.slice fo fn fc) ∧ w''.cell? ⟨w3.heap.size, 1, none⟩ = some (.slice co cn cc) ∧ w''.cell? ⟨w4.heap.size, 0, none⟩ = some (.slice oo on oc) ∧ w''.cell? ⟨w4.heap.size, 1, none⟩ = some (.slice qo qn qc)) (go_keep)
            (first
            | (go_at_call 40; (with_reducible refine Calls.mono CP1.out ?_); rintro e v2 ⟨rfl, hv2⟩; have hv2' := hv2.symm; subst hv2'; clear hv2; clear r0 r1 s0 s1; have r0 := HR1.out.cell (i := 1) rfl 0 _ rfl; have r1 := HR1.out.cell (i := 1) rfl 1 _ rfl; have s0 := HR1.out.cell (i := 3) rfl 0 _ rfl; have s1 := HR1.out.cell (i := 3) rfl 1 _ rfl))
          go_wp2_with fail
          go_region_held3 (fun w'' => w''.cell? ⟨w3.heap.size, 0, none⟩ = some (.slice fo fn fc) ∧ w''.cell? ⟨w3.heap.size, 1, none⟩ = some (.slice co cn cc) ∧ w''.cell? ⟨w4.heap.size, 0, none⟩ = some (.slice oo on oc) ∧ w''.cell? ⟨w4.heap.size, 1, none⟩ = some (.slice qo qn qc)) (go_keep)
            (first
            | (go_at_call 40; (with_reducible refine Calls.mono CP2.out ?_); rintro e v3 ⟨rfl, hv3⟩; have hv3' := hv3.symm; subst hv3'; clear hv3; clear r0 r1 s0 s1; have r0 := HR2.out.cell (i := 1) rfl 0 _ rfl; have r1 := HR2.out.cell (i := 1) rfl 1 _ rfl; have s0 := HR2.out.cell (i := 3) rfl 0 _ rfl; have s1 := HR2.out.cell (i := 3) rfl 1 _ rfl))
          go_wp2
          go_roundw
          case rel => exact ⟨k + 1, by omega, by go_num, Lib.hid (HR2.out.pick [0, 1, 2, 3, 4] (by decide))⟩
          case measure => simp [RowKit.intOf]; omega
        · have hge : ¬ ((k : Int) < N) := by omega
          have HF := Lib.hid (RetB.mk (w := w) (v := .bool true) (v' := .bool true) rfl HO.out.belowN)
          go_wp2
          go_ret
          exact HF.out
    · have g1 : (E != 0) = true := by simpa using hg
      have hl0 : ln = 0 := by have := HLR.out.1; have h := congrArg List.length HTW.out.1; rw [tw0, if_neg hg] at h; simp at h; rw [h] at this; simpa using this.symm
      have hr0 : rn = 0 := by have := HLR.out.2; have h := congrArg List.length HTW.out.2.1; rw [tw0, if_neg hg] at h; simp at h; rw [h] at this; simpa using this.symm
      subst hl0 hr0
      have p1 := H6.out.cell (i := 7) rfl 1 _ rfl
      have p2 := H6.out.cell (i := 7) rfl 2 _ rfl
      have HF := Lib.hid (RetB.mk (w := w) (v := .bool true) (v' := .bool true) rfl H6.out.belowN)
      clear hg
      go_wp2
      go_ret
      exact HF.out
end Go.Proofs.Ytfmabpdkjhlihaa

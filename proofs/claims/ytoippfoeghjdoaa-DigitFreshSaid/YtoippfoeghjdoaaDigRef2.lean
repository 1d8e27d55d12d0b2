/- The document's small functions of layers 2, 4, 6 that layer 8's answer asks: Size, May, Zeros, rest, Items, Item. The document's small functions of layer 8: Has, times, plus, at, total, digits; Items of layer 6. -/
import Derived.Test.YtoippfoeghjdoaaDigLaws
import Derived.Test.YtoippfoeghjdoaaShapeRef2
namespace Go.Proofs.Ytoippfoeghjdoaa
open Go.RowKit Go.Lib
set_option linter.unusedVariables false
set_option linter.unusedSimpArgs false
attribute [local go_sem] alloc_drewN setCell_drewN
set_option maxHeartbeats 400000 in
theorem rsize_any {w : World} {ao : Option Addr} {n c : Nat} {s : List Int} (h : Ls w ao n c s) :
    Calls Try.prog 81 #[.slice ao n c] w (RetS w (.tuple #[.int .i64 (szE s), .int .i64 (mayE s)])) := by
  have A := Lib.hid (rmay_any h)
  obtain ⟨e, HE⟩ : ∃ e, Hid (mayE s = e) := ⟨_, rfl⟩
  rw [HE.out] at A ⊢
  by_cases he : e = 0
  · subst he
    have C := Lib.hid (rcount_any h HE.out)
    have HZ : Hid (szE s = pr s) := by show _ = _; simp [szE, HE.out]
    rw [HZ.out]
    clear h
    go_enter Try.func81, Try.ntmps81
    go_wp2_with fail
    refine A.out.mono ?_; rintro e w' ⟨rfl, rfl⟩
    go_wp2_with fail
    refine C.out.mono ?_; rintro e w' ⟨rfl, rfl⟩
    go_wp2
    go_ret2
    exact RetS.mk rfl
  · have he' : (e != 0) = true := by simpa using he
    have HZ : Hid (szE s = 0) := by show _ = _; simp [szE, HE.out, he]
    rw [HZ.out]
    clear h
    go_enter Try.func81, Try.ntmps81
    go_wp2_with fail
    refine A.out.mono ?_; rintro e w' ⟨rfl, rfl⟩
    go_wp2
    go_ret2
    exact RetS.mk rfl
set_option maxHeartbeats 800000 in
theorem rmay4_any {w : World} {Y : Ar} (hY : Y.Is w) : Calls Try.prog 55 #[Y.v] w (RetB w (.bool (decide (amE Y.s Y.a = 0)))) := by
  obtain ⟨ta, tn, tc, ba, bn, bc, t, b⟩ := Y
  simp only [Ar.v]
  have H0 := (Sp.start Non w).alloc 38 2 1 #[.slice ta tn tc, .slice ba bn bc] rfl (by decide)
  obtain ⟨W, HW⟩ : ∃ z, Hid (w.alloc (.cells #[.slice ta tn tc, .slice ba bn bc] 38) = z) := ⟨_, rfl⟩
  rw [HW.out] at H0
  obtain ⟨g, HG⟩ : ∃ z, Hid (w.heap.size = z) := ⟨_, rfl⟩
  have H1_ := H0
  try simp only [List.cons_append, List.nil_append, List.set_cons_zero, List.set_cons_succ, List.map_cons, List.map_nil, List.getD_cons_zero, List.getD_cons_succ, World.size_alloc] at H1_
  have H1 := Lib.hid H1_
  clear H1_
  rw [HG.out] at H1
  have C := Lib.hid (rsize_any (hY.shp.below H1.out.belowN (Nat.le_refl _)))
  simp only at C
  have y0 := H1.out.cell (i := 0) rfl 0 _ rfl
  have y1 := H1.out.cell (i := 0) rfl 1 _ rfl
  have hbl : b.length = bn := hY.ats.len
  have HB := Lib.hid H1.out.belowN
  have HF : Hid (decide (amE t b = 0) = (decide (mayE t = 0) && decide (szE t = bn))) := by
    show _ = _
    unfold amE szE
    by_cases h : mayE t = 0
    · by_cases h2 : pr t = bn
      · simp [h, h2, hbl]
      · simp [h, h2, hbl]
    · simp [h]
  rw [HF.out]
  obtain ⟨m, HM⟩ : ∃ z, Hid (mayE t = z) := ⟨_, rfl⟩
  obtain ⟨sz, HS⟩ : ∃ z, Hid (szE t = z) := ⟨_, rfl⟩
  rw [HM.out, HS.out] at C ⊢
  clear hY H0 H1 hbl HF
  by_cases hm : m = 0
  · have q0 : (m == 0) = true := by simpa using hm
    by_cases h2 : sz = bn
    · have q1 : (sz == (bn : Int)) = true := by simpa using h2
      have e : (decide (m = 0) && decide (sz = (bn : Int))) = true := by simp [hm, h2]
      rw [e]
      clear hm h2
      go_enter Try.func55, Try.ntmps55
      go_wp2_with fail
      rw [HW.out, HG.out]
      refine C.out.mono ?_; rintro e w' ⟨rfl, hw'⟩
      have hw'' := hw'.symm
      subst hw''
      go_wp2
      go_ret
      exact RetB.mk rfl HB.out
    · have q1 : (sz == (bn : Int)) = false := by simpa using h2
      have e : (decide (m = 0) && decide (sz = (bn : Int))) = false := by simp [hm, h2]
      rw [e]
      clear hm h2
      go_enter Try.func55, Try.ntmps55
      go_wp2_with fail
      rw [HW.out, HG.out]
      refine C.out.mono ?_; rintro e w' ⟨rfl, hw'⟩
      have hw'' := hw'.symm
      subst hw''
      go_wp2
      go_ret
      exact RetB.mk rfl HB.out
  · have q0 : (m == 0) = false := by simpa using hm
    have e : (decide (m = 0) && decide (sz = (bn : Int))) = false := by simp [hm]
    rw [e]
    clear hm
    go_enter Try.func55, Try.ntmps55
    go_wp2_with fail
    rw [HW.out, HG.out]
    refine C.out.mono ?_; rintro e w' ⟨rfl, hw'⟩
    have hw'' := hw'.symm
    subst hw''
    go_wp2
    go_ret
    exact RetB.mk rfl HB.out
/-- An array of zeros of the call's own, its atoms in a block of their own. -/
def ZerP (w : World) (s : List Int) (P : Nat) (e : Ending) (w' : World) : Prop := ∃ bo n d g, e = .returned (.agg #[.slice bo n d, .slice (some ⟨g, 0, none⟩) P P]) ∧ Sp Non w w' [Pt.ints 3 bo n d s, Pt.ints 2 (some ⟨g, 0, none⟩) P P (List.replicate P 0)]
set_option maxRecDepth 100000 in
set_option maxHeartbeats 1600000 in
theorem rzeros_sp {w : World} {ao : Option Addr} {n c : Nat} {s : List Int} (h : Ls w ao n c s) (hm : mayE s = 0) :
    Calls Try.prog 83 #[.slice ao n c] w (ZerP w s (pr s).toNat) := by
  obtain ⟨i0, hi0, hza, hzb, hzc⟩ := info_parts (P := Try.prog) (e := 3) (z := .int .i64 0) (size := 1) (bytes := 8) (by kernel_rfl)
  have hpr := pr_nonneg hm
  obtain ⟨P, HP⟩ : ∃ P : Nat, Hid (pr s = P) := ⟨(pr s).toNat, (Int.toNat_of_nonneg hpr.1).symm⟩
  rw [HP.out] at hpr ⊢
  rw [Int.toNat_natCast]
  have h0 := (Sp.start Non w).alloc 38 2 1 #[.slice none 0 0, .slice none 0 0] rfl (by decide)
  obtain ⟨W, HW⟩ : ∃ z, Hid (w.alloc (.cells #[.slice none 0 0, .slice none 0 0] 38) = z) := ⟨_, rfl⟩
  rw [HW.out] at h0
  obtain ⟨g, HG⟩ : ∃ z, Hid (w.heap.size = z) := ⟨_, rfl⟩
  have H1_ := h0
  try simp only [List.cons_append, List.nil_append, List.set_cons_zero, List.set_cons_succ, List.map_cons, List.map_nil, List.getD_cons_zero, List.getD_cons_succ, World.size_alloc] at H1_
  have H1 := Lib.hid H1_
  clear H1_
  rw [HG.out] at H1
  have H2 : Hid (Sp Non w W [Pt.row ⟨38, 2, some ⟨g, 0, none⟩, 1, 1, [.slice none 0 0, .slice none 0 0]⟩, Pt.ints 3 none 0 0 []]) := H1.out.intsNew (E := 3) (zs := []) (World.ownsRow_nil _ _ _ _) (Below.refl _ _) (by omega) (fun i => by simp [List.getD])
  have HL := Lib.hid (h.below H2.out.belowN (Nat.le_refl _))
  have hn8 : n ≤ 8 := by have := (mayE_zero hm).2.1; have := h.len; omega
  have hb : (0 + n) * 8 ≤ 140737488351232 := by omega
  have hP2 : ¬ ((P : Int) < 0) := by omega
  have CC := Lib.hid (fun (w1 : World) (hb : Below w.heap.size w w1) => rcount_any (h.below hb (Nat.le_refl _)) hm)
  rw [HP.out] at CC
  clear h h0 H1
  go_enter Try.func83, Try.ntmps83
  go_wp2_with (at_builtin; rw [HW.out, HG.out]; refine Sp.wpList_loc H2.out rfl _ _ 25 (by rfl) 3 i0 Try.underlying25 hi0 hza hzb hzc (i := 1) rfl (by rfl) (by rfl) HL.out hb ?_)
  intro bo d w9 h9
  have H9 : Hid (Sp Non w w9 [Pt.row ⟨38, 2, some ⟨g, 0, none⟩, 1, 1, [.slice none 0 0, .slice none 0 0]⟩, Pt.ints 3 bo n d s]) := by
    exact h9
  have C9 := Lib.hid (CC.out _ H9.out.belowN)
  have z1 : 0 + n = n := by omega
  clear h9 H2 HL CC
  go_wp2_with fail
  refine C9.out.mono ?_; rintro e w' ⟨rfl, hw'⟩
  have hw'' := hw'.symm
  subst hw''
  have h10 := H9.out.zeros 2 P (by omega)
  obtain ⟨V, HV⟩ : ∃ z, Hid (w9.alloc (.cells (Array.replicate P (.int .i64 0)) 2) = z) := ⟨_, rfl⟩
  rw [HV.out] at h10
  have H10_ := h10
  try simp only [List.cons_append, List.nil_append, List.set_cons_zero, List.set_cons_succ, List.map_cons, List.map_nil, List.getD_cons_zero, List.getD_cons_succ, World.size_alloc] at H10_
  have H10 := Lib.hid H10_
  clear H10_
  have x0 := H10.out.cell (i := 0) rfl 0 _ rfl
  have x1 := H10.out.cell (i := 0) rfl 1 _ rfl
  have x2 := H10.out.frozen (i := 0) rfl 0
  have x3 := H10.out.frozen (i := 0) rfl 1
  have HF : Hid (∀ u v, ZerP w s P (.returned (.agg #[.slice bo n d, .slice (some ⟨w9.heap.size, 0, none⟩) P P])) ((V.setCell ⟨g, 0, none⟩ u).setCell ⟨g, 1, none⟩ v)) := fun u v =>
    ⟨bo, n, d, w9.heap.size, rfl, ((H10.out.put (i := 0) rfl 0 u).put (i := 0) rfl 1 v).pick [1, 2] (by decide)⟩
  rw [← HV.out] at x0 x1 x2 x3 HF
  have MK := mk_int64 P (by omega) w9
  clear h10 H10 H9 C9 hw'
  go_wp2
  exact bodyPost_ret (v := .agg #[.slice bo n d, .slice (some ⟨w9.heap.size, 0, none⟩) P P]) (by simp [results, Try.results83, go_sem, *]) rfl (HF.out _ _)
theorem rzeros_any {w : World} {ao : Option Addr} {n c : Nat} {s : List Int} (h : Ls w ao n c s) (hm : mayE s = 0) :
    Calls Try.prog 83 #[.slice ao n c] w (MadeA w s (List.replicate (pr s).toNat 0)) := by
  refine (rzeros_sp h hm).mono ?_
  rintro e w' ⟨bo, n2, d, g, rfl, h2⟩
  have q := h2.arrOf (i := 0) (j := 1) rfl (by decide) rfl
  exact madeE_A8 (q.madeE (i := 1) (B := ⟨bo, n2, d, some ⟨g, 0, none⟩, (pr s).toNat, (pr s).toNat, s, List.replicate (pr s).toNat 0⟩) rfl 0)
/-- A slice of ints of the call's own. -/
def MadeI (w : World) (zs : List Int) (e : Ending) (w' : World) : Prop := ∃ ao n c, e = .returned (.slice ao n c) ∧ Sp Non w w' [Pt.ints 3 ao n c zs]
set_option maxRecDepth 100000 in
set_option maxHeartbeats 1600000 in
theorem rrest_any {w : World} {ao : Option Addr} {n c : Nat} {s : List Int} (h : Ls w ao n c s) (hn8 : n ≤ 1000) :
    Calls Try.prog 111 #[.slice ao n c] w (MadeI w s.tail) := by
  have hl := h.len
  have H1 : Hid (Sp Non w w [Pt.ints 3 none 0 0 []]) := (Sp.start Non w).intsNew (E := 3) (zs := []) (World.ownsRow_nil _ _ _ _) (Below.refl _ _) (by omega) (fun i => by simp [List.getD])
  by_cases h0 : n = 0
  · have e : s = [] := List.eq_nil_of_length_eq_zero (by omega)
    subst e h0
    have HF : Hid (MadeI w [] (.returned (.slice none 0 0)) w) := ⟨none, 0, 0, rfl, H1.out⟩
    clear h
    go_enter Try.func111, Try.ntmps111
    go_wp2
    go_ret
    exact HF.out
  · obtain ⟨i0, hi0, hza, hzb, hzc⟩ := info_parts (P := Try.prog) (e := 3) (z := .int .i64 0) (size := 1) (bytes := 8) (by kernel_rfl)
    have q0 : ((n : Int) == 0) = false := by simp; omega
    have hcut := ls_cutI h 1 (n - 1) (by omega)
    have htt : (s.drop 1).take (n - 1) = s.tail := by
      rw [List.drop_one, List.take_of_length_le (by rw [List.length_tail, hl]; exact Nat.le_refl _)]
    rw [htt] at hcut
    have hcap := h.cap
    have z1 : (1 : Int) ≤ n := by omega
    have hb1 : (0 + (n - 1)) * 8 ≤ 140737488351232 := by omega
    clear htt h
    obtain ⟨ro, rc, HRO, hro⟩ : ∃ ro rc, Hid (Ls w ro (n - 1) rc s.tail) ∧ Value.slice (if c = 1 then ao else ao.map fun x => x.add 1) (n - 1) (c - 1) = .slice ro (n - 1) rc := ⟨_, _, hcut, rfl⟩
    have hend : Hid (∀ bo d w9, Sp Non w w9 [Pt.ints 3 bo (n - 1) d s.tail] → MadeI w s.tail (.returned (.slice bo (n - 1) d)) w9) := fun bo d w9 h9 => ⟨bo, _, d, rfl, h9⟩
    by_cases hc : c = 1
    · rw [if_pos hc] at hro
      subst hc
      have hn1 : n = 1 := by omega
      subst hn1
      cases hro
      clear hcut
      go_enter Try.func111, Try.ntmps111
      go_wp2_with (at_builtin; refine Sp.wpList_loc H1.out rfl _ _ 25 (by rfl) 3 i0 Try.underlying25 hi0 hza hzb hzc (i := 0) rfl (by rfl) (by rfl) HRO.out hb1 ?_)
      intro bo d w9 h9
      have HE := Lib.hid (hend.out _ _ _ h9)
      clear h9 hend
      go_wp2
      go_ret
      exact HE.out
    · rw [if_neg hc] at hro
      cases hro
      have z2 : (n : Int) ≤ c := by omega
      have z3 : ¬ c - 1 = 0 := by omega
      clear hcut
      go_enter Try.func111, Try.ntmps111
      go_wp2_with (at_builtin; refine Sp.wpList_loc H1.out rfl _ _ 25 (by rfl) 3 i0 Try.underlying25 hi0 hza hzb hzc (i := 0) rfl (by rfl) (by rfl) HRO.out hb1 ?_)
      intro bo d w9 h9
      have HE := Lib.hid (hend.out _ _ _ h9)
      clear h9 hend
      go_wp2
      go_ret
      exact HE.out
end Go.Proofs.Ytoippfoeghjdoaa
namespace Go.Proofs.Ytoippfoeghjdoaa
open Go.RowKit Go.Lib
set_option linter.unusedVariables false
set_option linter.unusedSimpArgs false
attribute [local go_sem] alloc_drewN setCell_drewN
set_option maxHeartbeats 400000 in
theorem rhas8_any (op v : Int) (w : World) : Calls Try.prog 29 #[.int .i64 op, .int .i64 v] w (RetS w (.bool (dHas op v))) := by
  have q1 : (v == 1) = decide (v = 1) := by by_cases h : v = 1 <;> simp [h]
  have q2 : (v == 2) = decide (v = 2) := by by_cases h : v = 2 <;> simp [h]
  by_cases h1 : op = 34
  · subst h1
    have HF : Hid (dHas 34 v = (v == 1)) := by show _ = _; rw [q1]; simp [dHas]
    rw [HF.out]
    go_enter Try.func29, Try.ntmps29
    go_wp2
    go_ret
    exact RetS.mk rfl
  by_cases h2 : op = 43
  · subst h2
    have HF : Hid (dHas 43 v = (v == 1)) := by show _ = _; rw [q1]; simp [dHas]
    rw [HF.out]
    go_enter Try.func29, Try.ntmps29
    go_wp2
    go_ret
    exact RetS.mk rfl
  by_cases h3 : op = 22
  · subst h3
    have HF : Hid (dHas 22 v = (v == 2)) := by show _ = _; rw [q2]; simp [dHas]
    rw [HF.out]
    go_enter Try.func29, Try.ntmps29
    go_wp2
    go_ret
    exact RetS.mk rfl
  by_cases h4 : op = 39 ∨ op = 40
  · have HF : Hid (dHas op v = decide (v = 1 ∨ v = 2)) := by show _ = _; rcases h4 with rfl | rfl <;> simp [dHas]
    rw [HF.out]
    rcases h4 with rfl | rfl
    all_goals
      by_cases hv : v = 1
      · subst hv
        go_enter Try.func29, Try.ntmps29
        go_wp2
        go_ret
        exact RetS.mk (boolv (by simp))
      · have e1 : (v == 1) = false := by simpa using hv
        have HG : Hid ((v == 2) = decide (v = 1 ∨ v = 2)) := by show _ = _; rw [q2]; simp [hv]
        clear q1 q2 HF
        go_enter Try.func29, Try.ntmps29
        go_wp2
        go_ret
        exact RetS.mk (boolv HG.out)
  · have HF : Hid (dHas op v = false) := by show _ = _; unfold dHas; rw [if_neg (by omega), if_neg h3, if_neg h4]
    rw [HF.out]
    have e1 : (op == 34) = false := by simpa using h1
    have e2 : (op == 43) = false := by simpa using h2
    have e3 : (op == 22) = false := by simpa using h3
    have e4 : (op == 39) = false := by simp; omega
    have e5 : (op == 40) = false := by simp; omega
    clear h1 h2 h3 h4 q1 q2
    go_enter Try.func29, Try.ntmps29
    go_wp2
    go_ret
    exact RetS.mk rfl
/-- A number and whether it fits: where it does, it is m. -/
def FitP (w : World) (m : Int) (e : Ending) (w' : World) : Prop := ∃ (v : Int) (n : Nat), e = .returned (.tuple #[.int .i64 v, .bool (fit m)]) ∧ (fit m = true → v = m) ∧ w' = w.drewN n
theorem FitP.mk0 {w : World} {m v : Int} {b : Bool} (h : b = fit m) (hv : fit m = true → v = m) : FitP w m (.returned (.tuple #[.int .i64 v, .bool b])) w := ⟨v, 0, by rw [h], hv, rfl⟩
theorem FitP.mk {w : World} {m v : Int} {b : Bool} (n : Nat) (h : b = fit m) (hv : fit m = true → v = m) : FitP w m (.returned (.tuple #[.int .i64 v, .bool b])) (w.drewN n) := ⟨v, n, by rw [h], hv, rfl⟩
set_option maxHeartbeats 800000 in
theorem rtimes8_any (a b : Int) (w : World) (ha : -9223372036854775808 ≤ a ∧ a ≤ 9223372036854775807) (hb : -9223372036854775808 ≤ b ∧ b ≤ 9223372036854775807) :
    Calls Try.prog 90 #[.int .i64 a, .int .i64 b] w (FitP w (a * b)) := by
  by_cases a0 : a = 0
  · subst a0
    have HF : Hid (FitP w (0 * b) (.returned (.tuple #[.int .i64 0, .bool true])) w) := FitP.mk0 (by rw [Int.zero_mul]; rfl) (fun _ => by rw [Int.zero_mul])
    clear ha hb
    go_enter Try.func90, Try.ntmps90
    go_wp2
    go_ret2
    exact HF.out
  have ha0 : (a == 0) = false := by simpa using a0
  by_cases b0 : b = 0
  · subst b0
    have HF : Hid (FitP w (a * 0) (.returned (.tuple #[.int .i64 0, .bool true])) w) := FitP.mk0 (by rw [Int.mul_zero]; rfl) (fun _ => by rw [Int.mul_zero])
    clear ha hb a0
    go_enter Try.func90, Try.ntmps90
    go_wp2
    go_ret2
    exact HF.out
  have hb0 : (b == 0) = false := by simpa using b0
  by_cases hs : a = -1 ∧ b = -9223372036854775808
  · obtain ⟨rfl, rfl⟩ := hs
    have HF : Hid (FitP w (-1 * -9223372036854775808) (.returned (.tuple #[.int .i64 0, .bool false])) w) := FitP.mk0 (by decide) (fun h => absurd h (by decide))
    clear ha hb a0 b0 ha0 hb0
    go_enter Try.func90, Try.ntmps90
    go_wp2
    go_ret2
    exact HF.out
  have HS : Hid (((a == -1) = true ∧ (b == -9223372036854775808) = false) ∨ (a == -1) = false) := by
    by_cases q : a = -1
    · exact .inl ⟨by simpa using q, by simp; omega⟩
    · exact .inr (by simpa using q)
  by_cases b1 : b = -1
  · subst b1
    have hab : a * -1 = - a := by omega
    rw [hab]
    by_cases am : a = -9223372036854775808
    · subst am
      have HF : Hid (FitP w (- -9223372036854775808) (.returned (.tuple #[.int .i64 0, .bool false])) w) := FitP.mk0 (by decide) (fun h => absurd h (by decide))
      clear ha hb a0 b0 ha0 hb0 hab hs HS
      go_enter Try.func90, Try.ntmps90
      go_wp2
      go_ret2
      exact HF.out
    · have am' : (a == -9223372036854775808) = false := by simpa using am
      have HF : Hid (∀ n, FitP w (-a) (.returned (.tuple #[.int .i64 (-a), .bool true])) (w.drewN n)) := fun n => FitP.mk n (fit_of (by omega)).symm (fun _ => rfl)
      have z1 : IntKind.i64.wrap (-a) = -a := IntWalk.i64_in _ (by omega)
      have z2 : IntKind.i64.wrap a = a := IntWalk.i64_in _ (by omega)
      have z3 : (a == a) = true := by simp
      have hq := HS.out
      clear ha hb a0 b0 hab hs HS am
      rcases hq with ⟨q1, q2⟩ | q1
      · obtain rfl : a = -1 := by simpa using q1
        clear q1 q2
        go_enter Try.func90, Try.ntmps90
        go_wp2_with fail
        go_quiet (fail)
        go_wp2
        go_ret2
        exact HF.out _
      · go_enter Try.func90, Try.ntmps90
        go_wp2_with fail
        go_quiet (fail)
        go_wp2
        go_ret2
        exact HF.out _
  · have b1' : (b == -1) = false := by simpa using b1
    have hm := mul_test ha hb b0 b1
    obtain ⟨c, hc⟩ : ∃ c, c = wrap64 (a * b) := ⟨_, rfl⟩
    have hc1 : -9223372036854775808 ≤ c ∧ c ≤ 9223372036854775807 := by rw [hc]; unfold wrap64; omega
    have hcm : IntKind.i64.wrap (a * b) = c := by rw [hc]; exact IntWalk.i64_left _
    have hcm2 : wrap64 (a * b) = c := hc.symm
    rw [← hc] at hm
    obtain ⟨d, hd⟩ : ∃ d, d = wrap64 (c.tdiv b) := ⟨_, rfl⟩
    rw [← hd] at hm
    have hdm : IntKind.i64.wrap (c.tdiv b) = d := by rw [hd]; exact IntWalk.i64_left _
    have hdm2 : wrap64 (c.tdiv b) = d := hd.symm
    have hfe : (d == a) = fit (a * b) := by
      cases hf : fit (a * b)
      · have : ¬ d = a := fun e => by rw [fit_of (hm.1 e)] at hf; cases hf
        simpa using this
      · have : d = a := hm.2 ((fit_iff _).1 hf)
        simpa using this
    have HF : Hid (∀ n, FitP w (a * b) (.returned (.tuple #[.int .i64 c, .bool (d == a)])) (w.drewN n)) := fun n => FitP.mk n hfe (fun h => by
      have := (fit_iff _).1 h
      rw [hc]; unfold wrap64; omega)
    have hq := HS.out
    clear ha hb a0 b1 hs HS hm hc hd hfe
    rcases hq with ⟨q1, q2⟩ | q1
    · go_enter Try.func90, Try.ntmps90
      go_wp2_with fail
      go_quiet (fail)
      go_wp2
      go_ret2
      exact HF.out _
    · go_enter Try.func90, Try.ntmps90
      go_wp2_with fail
      go_quiet (fail)
      go_wp2
      go_ret2
      exact HF.out _
set_option maxHeartbeats 400000 in
theorem rplus8_any (a b : Int) (w : World) (ha : -9223372036854775808 ≤ a ∧ a ≤ 9223372036854775807) (hb : -9223372036854775808 ≤ b ∧ b ≤ 9223372036854775807) :
    Calls Try.prog 92 #[.int .i64 a, .int .i64 b] w (FitP w (a + b)) := by
  obtain ⟨c, hc⟩ : ∃ c, c = wrap64 (a + b) := ⟨_, rfl⟩
  have hcm : IntKind.i64.wrap (a + b) = c := by rw [hc]; exact IntWalk.i64_left _
  have hcm2 : wrap64 (a + b) = c := hc.symm
  have hfe : (decide (a < c) == decide (0 < b)) = fit (a + b) := by
    cases hf : fit (a + b)
    · have h1 : ¬ (-9223372036854775808 ≤ a + b ∧ a + b ≤ 9223372036854775807) := fun h => by rw [fit_of h] at hf; cases hf
      unfold wrap64 at hc
      by_cases h0 : 0 < b
      · have h2 : ¬ a < c := by omega
        simp [h0, h2]
      · have h2 : a < c := by omega
        simp [h0, h2]
    · have h1 := (fit_iff _).1 hf
      unfold wrap64 at hc
      by_cases h0 : 0 < b
      · have h2 : a < c := by omega
        simp [h0, h2]
      · have h2 : ¬ a < c := by omega
        simp [h0, h2]
  have HF : Hid (∀ n, FitP w (a + b) (.returned (.tuple #[.int .i64 c, .bool (decide (a < c) == decide (0 < b))])) (w.drewN n)) := fun n => FitP.mk n hfe (fun h => by
    have := (fit_iff _).1 h
    rw [hc]; unfold wrap64; omega)
  clear ha hb hc hfe
  go_enter Try.func92, Try.ntmps92
  go_wp2
  go_ret2
  exact HF.out 0
set_option maxHeartbeats 400000 in
theorem rat8_any {w : World} {A : Ar} (hA : A.Is w) (i : Nat) (hi : if A.sn = 0 then 0 < A.an else i < A.an) :
    Calls Try.prog 91 #[A.v, .int .i64 i] w (RetB w (.int .i64 (pkV A.s A.a i))) := by
  obtain ⟨sa, sn, sc, aa, an, ac, s, a⟩ := A
  simp only [Ar.v]
  simp only at hi
  have hsl : s.length = sn := hA.shp.len
  have h0 := (Sp.start Non w).alloc 38 2 1 #[.slice sa sn sc, .slice aa an ac] rfl (by decide)
  have H1_ := h0
  try simp only [List.cons_append, List.nil_append, List.set_cons_zero, List.set_cons_succ, List.map_cons, List.map_nil, List.getD_cons_zero, List.getD_cons_succ, World.size_alloc] at H1_
  have H1 := Lib.hid H1_
  clear H1_
  have HB := Lib.hid H1.out.belowN
  by_cases h : sn = 0
  · rw [if_pos h] at hi
    have e : pkV s a i = a.getD 0 0 := by unfold pkV; rw [if_pos (by omega)]
    obtain ⟨b, o, e3, hc⟩ := (hA.below H1.out.belowN (Nat.le_refl _)).ats.at (by simp only; omega)
    have d0 := hc 0 hi
    simp only [Nat.add_zero] at e3 d0
    rw [e]
    obtain ⟨x, HX⟩ : ∃ z, Hid (a.getD 0 0 = z) := ⟨_, rfl⟩
    rw [HX.out] at d0 ⊢
    subst h e3
    have x0 := H1.out.cell (i := 0) rfl 0 _ rfl
    have x1 := H1.out.cell (i := 0) rfl 1 _ rfl
    have hi' : (0 : Int) < an := by omega
    clear hA hsl e hc h0 H1
    go_enter Try.func91, Try.ntmps91
    go_wp2
    go_ret
    exact RetB.mk rfl HB.out
  · rw [if_neg h] at hi
    have e : pkV s a i = a.getD i 0 := by unfold pkV; rw [if_neg (by omega)]
    obtain ⟨b, o, e3, hc⟩ := (hA.below H1.out.belowN (Nat.le_refl _)).ats.at (by simp only; omega)
    have d0 := hc i hi
    simp only at e3 d0
    rw [e]
    obtain ⟨x, HX⟩ : ∃ z, Hid (a.getD i 0 = z) := ⟨_, rfl⟩
    rw [HX.out] at d0 ⊢
    subst e3
    have x0 := H1.out.cell (i := 0) rfl 0 _ rfl
    have x1 := H1.out.cell (i := 0) rfl 1 _ rfl
    have hi' : (i : Int) < an := by omega
    have q0 : ((sn : Int) == 0) = false := by simp; omega
    have q1 : (sn == 0) = false := by simpa using h
    clear hA hsl e hc h0 H1
    go_enter Try.func91, Try.ntmps91
    go_wp2
    go_ret
    exact RetB.mk rfl HB.out
end Go.Proofs.Ytoippfoeghjdoaa

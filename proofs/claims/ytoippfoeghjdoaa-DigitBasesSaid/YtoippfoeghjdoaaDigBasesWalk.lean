/- DigitBases: the walk of the statement's function. -/
import Derived.Test.YtoippfoeghjdoaaDigBasPlain
namespace Go.Proofs.Ytoippfoeghjdoaa
open Go.RowKit Go.Lib
set_option linter.unusedVariables false
set_option linter.unusedSimpArgs false
attribute [local go_sem] alloc_drewN setCell_drewN
set_option maxRecDepth 100000 in
set_option maxHeartbeats 6400000 in
theorem walkDigitBases {w : World} {ao : Option Addr} {n c : Nat} {xs : List Int} (hS : Ls w ao n c xs) {x : Int} (hx : -9223372036854775808 ≤ x ∧ x ≤ 9223372036854775807) :
    Calls Try.prog 7 #[.slice ao n c, .int .i64 x] w (RetB w (.bool true)) := by
  have BG := Lib.hid (begun8_any w)
  have hl := hS.len
  have hb := hS.big
  have HS := Lib.hid hS
  clear hS
  by_cases hbig : 4095 < n
  · have hbig' : (4095 : Int) < n := by omega
    go_enter Try.func7, Try.ntmps7
    go_wp2_with fail
    refine BG.out.mono ?_; rintro e w1 ⟨rfl, hb1⟩
    go_wp2
    go_ret
    exact RetB.mk rfl hb1
  have hbig' : ¬ (4095 : Int) < n := by omega
  have HL := Lib.hid hl
  have HX := Lib.hid hx
  have CY : Hid (∀ (op : Int) (w1 : World) (X Y : Ar) (s a t b S B : List Int) (E : Int), X.Is w1 → Y.Is w1 → X.s = s → X.a = a → Y.s = t → Y.a = b → dDya op s a t b = (S, B, E) → Calls Try.prog 24 #[.int .i64 op, X.v, Y.v] w1 (MadeE w1 S B E)) := by
    intro op w1 X Y s a t b S B E hX hY hs ha ht hb h
    have q := ddyad_any hX hY op
    rw [hs, ha, ht, hb, h] at q
    exact q
  obtain ⟨i0, hi0, hz0, hz1, hz2⟩ := info_parts (P := Try.prog) (e := 2) (z := .int .i64 0) (size := 1) (bytes := 8) (by kernel_rfl)
  have HI0 := Lib.hid (And.intro hi0 (And.intro hz0 (And.intro hz1 hz2)))
  clear hi0 hz0 hz1 hz2 hl hx
  go_enter Try.func7, Try.ntmps7
  go_wp2_with fail
  refine BG.out.mono ?_; rintro e w1 ⟨rfl, hb1⟩
  have h1 := ((Sp.start Non w).via hb1).alloc 2 1 1 #[.int .i64 0] rfl (by decide)
  have H1_ := h1.toInts (i := 0) (zs := [0]) rfl (by omega) (rng_one (by omega))
  try simp only [List.cons_append, List.nil_append, List.set_cons_zero, List.set_cons_succ, List.map_cons, List.map_nil, List.getD_cons_zero, List.getD_cons_succ, World.size_alloc] at H1_
  have H1 := Lib.hid H1_
  clear H1_
  have HLX := Lib.hid (HS.out.below H1.out.belowN (Nat.le_refl _))
  have hb2 : (1 + n) * 8 ≤ 140737488351232 := by omega
  clear h1 hb1
  go_wp2_with (at_builtin; refine Sp.wpList_loc (i := 0) H1.out rfl _ _ 28 rfl 2 i0 Try.underlying28 HI0.out.1 HI0.out.2.1 HI0.out.2.2.1 HI0.out.2.2.2 rfl rfl rfl HLX.out hb2 ?_)
  intro bo bd w2 h2
  have H2 : Hid (Sp Non w w2 [Pt.ints 2 bo (n + 1) bd (0 :: xs)]) := by
    show Sp _ _ _ _
    rw [Nat.add_comm n 1]
    exact h2
  have z1 : 1 + n = n + 1 := by omega
  have CL := Lib.hid (list8_any (H2.out.ls (i := 0) rfl) (by omega))
  have CL2 := Lib.hid (fun (w3 : World) (hb : Below w2.heap.size w2 w3) => list8_any ((H2.out.via hb).ls (i := 0) rfl) (by omega))
  have CS := Lib.hid (fun w3 => scalar8_any x w3 HX.out)
  clear h2 H1 HLX BG
  go_wp2_with fail
  refine CL.out.mono ?_; rintro e w3 ⟨⟨sa3, sn3, sc3, aa3, an3, ac3, s3, a3⟩, rfl, hI3, hs3, ha3, hO3, hb3⟩
  have H3 := Lib.hid (H2.out.arrNew hI3 hO3 hb3)
  have HV3 := Lib.hid (And.intro hs3 ha3)
  simp only [Ar.v]
  clear hI3 hs3 ha3 hO3 hb3 CL
  go_wp2_with fail
  refine (CS.out _).mono ?_; rintro e w4 ⟨⟨sa4, sn4, sc4, aa4, an4, ac4, s4, a4⟩, rfl, hI4, hs4, ha4, hO4, hb4⟩
  have H4 := Lib.hid (H3.out.via hb4)
  have HV4 := Lib.hid (And.intro hI4 (And.intro hs4 ha4))
  simp only [Ar.v]
  clear hI4 hs4 ha4 hO4 hb4 H3
  cases hg : anGo (0 :: xs) x (n + 1) with
  | none =>
    have C1 := Lib.hid (CY.out 40 w4 _ _ _ _ _ _ _ _ _ (H4.out.isA (i := 1) rfl) HV4.out.1 HV3.out.1 HV3.out.2 HV4.out.2.1 HV4.out.2.2 (anti_none HL.out (by omega) hg))
    have hbad : ∃ i, i < n ∧ xs.getD i 0 = -1 := by
      rcases anGo_bad (x := xs) (n := x) (decide_eq_true HX.out) (xs.length + 1) (Nat.le_refl _) with ⟨q, dl, h, -⟩ | h
      · rw [HL.out, hg] at h; cases h
      · rw [HL.out] at h; exact h
    have HBAD := Lib.hid hbad
    simp only [Ar.v] at C1
    clear hg hbad
    go_wp2_with fail
    refine C1.out.mono ?_; rintro e w5 ⟨⟨sa5, sn5, sc5, aa5, an5, ac5, s5, a5⟩, rfl, hI5, hs5, ha5, hO5, hb5⟩
    have hn5 : an5 = 0 := by have h1 := hI5.ats.len; simp only at h1 ha5; rw [ha5] at h1; exact h1.symm
    subst hn5
    have h6 := ((H4.out.arrNew hI5 hO5 hb5).pick [0, 2] (by decide)).alloc 38 2 1 #[.slice sa5 sn5 sc5, .slice aa5 0 ac5] rfl (by decide)
    have H6_ := h6
    try simp only [List.cons_append, List.nil_append, List.set_cons_zero, List.set_cons_succ, List.map_cons, List.map_nil, List.getD_cons_zero, List.getD_cons_succ, World.size_alloc] at H6_
    have H6 := Lib.hid H6_
    clear H6_
    have HSX := Lib.hid (HS.out.below H6.out.belowN (Nat.le_refl _))
    have y1 := H6.out.cell (i := 2) rfl 1 _ rfl
    simp only [Ar.v]
    clear hI5 hs5 ha5 hO5 hb5 h6 C1 H4 HV4 HV3
    go_wp2_with fail
    obtain ⟨W, HW⟩ : ∃ z, Hid (w5.alloc (.cells #[.slice sa5 sn5 sc5, .slice aa5 0 ac5] 38) = z) := ⟨_, rfl⟩
    obtain ⟨g5, HG5⟩ : ∃ z, Hid (w5.heap.size = z) := ⟨_, rfl⟩
    rw [HW.out, HG5.out] at H6 y1
    rw [HW.out] at HSX
    rw [HW.out, HG5.out]
    go_loop [8, 9] (fun v8 v9 => ∃ (i : Nat) (h : Bool), i ≤ n ∧ v9 = .int .i64 i ∧ v8 = .bool h ∧ Hid ((∃ j, j < i ∧ xs.getD j 0 = -1) → h = true)) (fun _ v9 => n - (RowKit.intOf v9).toNat)
    case atStart => exact ⟨0, false, by omega, rfl, rfl, fun ⟨j, hj, _⟩ => absurd hj (by omega)⟩
    case round =>
      obtain ⟨i, h, hi, rfl, rfl, HH⟩ := hrel
      by_cases hlt : i < n
      · have hlt' : (i : Int) < n := by omega
        cases h
        · obtain ⟨b1, o1, e1, hc1⟩ := HSX.out.at (by omega)
          subst e1
          have d1 := hc1 i hlt
          obtain ⟨v, HVV⟩ : ∃ z, Hid (xs.getD i 0 = z) := ⟨_, rfl⟩
          rw [HVV.out] at d1
          clear hc1
          by_cases hv : v = -1
          · have q1 : (v == -1) = true := by simpa using hv
            clear hv
            go_wp2
            go_round
            case rel => exact ⟨i + 1, true, by omega, by go_num, rfl, fun _ => rfl⟩
            case measure => simp [RowKit.intOf]; omega
          · have q1 : (v == -1) = false := by simpa using hv
            have HH' : Hid ((∃ j, j < i + 1 ∧ xs.getD j 0 = -1) → false = true) := fun ⟨j, hj, e⟩ => by
              by_cases hji : j = i
              · subst hji; rw [HVV.out] at e; exact absurd e hv
              · exact HH.out ⟨j, by omega, e⟩
            clear hv
            go_wp2
            go_round
            case rel => exact ⟨i + 1, false, by omega, by go_num, rfl, HH'⟩
            case measure => simp [RowKit.intOf]; omega
        · go_wp2
          go_round
          case rel => exact ⟨i + 1, true, by omega, by go_num, rfl, fun _ => rfl⟩
          case measure => simp [RowKit.intOf]; omega
      · have hge : ¬ ((i : Int) < n) := by omega
        obtain rfl : i = n := by omega
        have hh : h = true := HH.out HBAD.out
        subst hh
        have HB := Lib.hid H6.out.belowN
        go_wp2
        go_ret
        exact RetB.mk rfl HB.out
  | some p =>
    obtain ⟨q, ds⟩ := p
    have C1 := Lib.hid (CY.out 40 w4 _ _ _ _ _ _ _ _ _ (H4.out.isA (i := 1) rfl) HV4.out.1 HV3.out.1 HV3.out.2 HV4.out.2.1 HV4.out.2.2 (anti_some HL.out (by omega) hg))
    have hdl : ds.length = n + 1 := anGo_len hg
    have HG := Lib.hid (And.intro hg hdl)
    simp only [Ar.v] at C1
    clear hg hdl
    go_wp2_with fail
    refine C1.out.mono ?_; rintro e w5 ⟨⟨sa5, sn5, sc5, aa5, an5, ac5, s5, a5⟩, rfl, hI5, hs5, ha5, hO5, hb5⟩
    simp only at hs5 ha5
    have ha' := ha5.symm
    have hs' := hs5.symm
    subst ha' hs'
    have hn5 : an5 = n + 1 := by have h1 := hI5.ats.len; have h2 := HG.out.2; simp only at h1; omega
    subst hn5
    have h6 := ((H4.out.arrNew hI5 hO5 hb5).pick [0, 2] (by decide)).alloc 38 2 1 #[.slice sa5 sn5 sc5, .slice aa5 (n + 1) ac5] rfl (by decide)
    have H6_ := h6
    try simp only [List.cons_append, List.nil_append, List.set_cons_zero, List.set_cons_succ, List.map_cons, List.map_nil, List.getD_cons_zero, List.getD_cons_succ, World.size_alloc] at H6_
    have H6 := Lib.hid H6_
    clear H6_
    have y0 := H6.out.cell (i := 2) rfl 0 _ rfl
    have y1 := H6.out.cell (i := 2) rfl 1 _ rfl
    have q1 : ((n : Int) + 1 != n + 1) = false := by simp
    simp only [Ar.v]
    clear hs5 ha5 hI5 hO5 hb5 h6 C1 H4 HV4 HV3
    go_wp2_with fail
    obtain ⟨W, HW⟩ : ∃ z, Hid (w5.alloc (.cells #[.slice sa5 sn5 sc5, .slice aa5 (n + 1) ac5] 38) = z) := ⟨_, rfl⟩
    obtain ⟨g5, HG5⟩ : ∃ z, Hid (w5.heap.size = z) := ⟨_, rfl⟩
    rw [HW.out, HG5.out] at H6 y0 y1
    rw [HW.out, HG5.out]
    go_loop [10] (fun v10 => ∃ i : Nat, 1 ≤ i ∧ i ≤ n + 1 ∧ v10 = .int .i64 i) (fun v10 => n + 1 - (RowKit.intOf v10).toNat)
    case atStart => exact ⟨1, by omega, by omega, rfl⟩
    case round =>
      obtain ⟨i, hi1, hi, rfl⟩ := hrel
      by_cases hlt : i < n + 1
      · have hlt' : (i : Int) < n + 1 := by omega
        obtain ⟨b1, o1, e1, hc1⟩ := (H6.out.ls (i := 0) rfl).at (by omega)
        obtain ⟨b2, o2, e2, hc2⟩ := (H6.out.isA (i := 1) rfl).ats.at (by simp only; omega)
        have d1 := hc1 i hlt
        have d2 := hc2 i (by simp only; omega)
        simp only at e2 d2
        subst e1 e2
        obtain ⟨hp, hm⟩ := dig_bd HL.out HG.out.1 i hlt
        obtain ⟨b, HB⟩ : ∃ z, Hid ((0 :: xs).getD i 0 = z) := ⟨_, rfl⟩
        obtain ⟨d, HD⟩ : ∃ z, Hid (ds.getD i 0 = z) := ⟨_, rfl⟩
        rw [HB.out, HD.out] at hp hm
        rw [HB.out] at d1
        rw [HD.out] at d2
        clear hc1 hc2
        rcases Int.lt_trichotomy 0 b with h | h | h
        · obtain ⟨h1, h2⟩ := hp h
          have h3 : ¬ d < 0 := by omega
          have h4 : ¬ b ≤ d := by omega
          have h5 : ¬ b < 0 := by omega
          clear hp hm
          go_wp2
          go_round
          case rel => exact ⟨i + 1, by omega, by omega, by go_num⟩
          case measure => simp [RowKit.intOf]; omega
        · subst h
          clear hp hm
          go_wp2
          go_round
          case rel => exact ⟨i + 1, by omega, by omega, by go_num⟩
          case measure => simp [RowKit.intOf]; omega
        · obtain ⟨h1, h2⟩ := hm h
          have h3 : ¬ 0 < d := by omega
          have h4 : ¬ d ≤ b := by omega
          have h5 : ¬ 0 < b := by omega
          clear hp hm
          go_wp2
          go_round
          case rel => exact ⟨i + 1, by omega, by omega, by go_num⟩
          case measure => simp [RowKit.intOf]; omega
      · have hge : ¬ ((i : Int) < n + 1) := by omega
        obtain rfl : i = n + 1 := by omega
        have hv : ∃ A2 E2, dDya 39 [((n + 1 : Nat) : Int)] (0 :: xs) [((n + 1 : Nat) : Int)] ds = ([], A2, E2) ∧ (E2 = 14 ∨ (E2 = 0 ∧ ((∀ i, i < n → xs.getD i 0 ≠ 0) → A2 = [x]))) := by
          cases hgb : bsGo [((n + 1 : Nat) : Int)] (0 :: xs) [((n + 1 : Nat) : Int)] ds (n + 1) with
          | none => exact ⟨_, _, based_none HL.out HG.out.2 (by omega) hgb, .inl rfl⟩
          | some r => exact ⟨_, _, based_some HL.out HG.out.2 (by omega) hgb, .inr ⟨rfl, fun hz => by rw [back_eq HL.out HG.out.1 hz hgb]⟩⟩
        obtain ⟨A2, E2, hv2, hE2⟩ := hv
        have HV2 := Lib.hid hv2
        have CLQ := Lib.hid (fun (w3 : World) (hb : Below W.heap.size W w3) => list8_any ((H6.out.via hb).ls (i := 0) rfl) (by omega))
        have hg5 := (H6.out.rlt (i := 2) rfl).1
        have ne1 : ¬ g5 = W.heap.size := by omega
        have ne2 : ¬ W.heap.size = g5 := by omega
        have HD1 : Hid (Below W.heap.size W (W.alloc (.cells #[.slice none 0 0, .slice none 0 0] 38)).drew) := abvia (abal W _) (adrew1 _)
        have HG5' := Lib.hid hg5
        clear hv2 CL2 q1 hg5
        go_upto_region 22 with fail
        go_cut [12, 13] from 114 to 121 (fun v12 v13 wx => ∃ (g8 : Nat) (R : Ar), v12 = .pointer (some ⟨g8, 0, none⟩) ∧ v13 = .int .i64 E2 ∧ Hid (Sp Non w wx [Pt.arr R, Pt.row ⟨38, 2, some ⟨g8, 0, none⟩, 1, 1, [.slice R.sa R.sn R.sc, .slice R.aa R.an R.ac]⟩]) ∧ Hid (R.s = [] ∧ R.a = A2))
        case first =>
          go_region_held3 (fun v => v.cell? ⟨g5, 0, none⟩ = some (.slice sa5 sn5 sc5) ∧ v.cell? ⟨g5, 1, none⟩ = some (.slice aa5 (n + 1) ac5)) (go_keep)
            (first
            | (go_at_call 21; (with_reducible refine Calls.mono (CLQ.out _ (adrew1 _)) ?_); rintro e v1 ⟨⟨sa7, sn7, sc7, aa7, an7, ac7, s7, a7⟩, rfl, hI, hs, ha, hO, hq⟩; have H7 := Lib.hid ((H6.out.via (adrew1 W)).via hq); have C2 := Lib.hid (CY.out 39 v1 _ _ _ _ _ _ _ _ _ hI (H7.out.isA (i := 1) rfl) hs ha rfl rfl HV2.out); have C3 := Lib.hid (CY.out 39 (v1.alloc (.cells #[.slice none 0 0, .slice none 0 0] 38)) _ _ _ _ _ _ _ _ _ (hI.via (abal _ _)) ((H7.out.via (abal _ _)).isA (i := 1) rfl) hs ha rfl rfl HV2.out); simp only [Ar.v] at C2 C3 ⊢; have hsz := hq.size; have hg5 := HG5'.out; have ne3 : ¬ g5 = v1.heap.size := (by simp at hsz; omega); have ne4 : ¬ v1.heap.size = g5 := (by simp at hsz; omega); clear CLQ hI hs ha hO hq y0 y1 hsz hg5; have y0 := H7.out.cell (i := 2) rfl 0 _ rfl; have y1 := H7.out.cell (i := 2) rfl 1 _ rfl)
            | (go_at_call 21; (with_reducible refine Calls.mono (CLQ.out _ HD1.out) ?_); rintro e v1 ⟨⟨sa7, sn7, sc7, aa7, an7, ac7, s7, a7⟩, rfl, hI, hs, ha, hO, hq⟩; have H7 := Lib.hid (((H6.out.alloc 38 2 1 #[.slice none 0 0, .slice none 0 0] rfl (by decide)).via (adrew1 _)).via hq); have C4 := Lib.hid (CY.out 39 v1 _ _ _ _ _ _ _ _ _ hI (H7.out.isA (i := 1) rfl) hs ha rfl rfl HV2.out); simp only [Ar.v] at C4 ⊢; have hsz := hq.size; have hg5 := HG5'.out; clear CLQ hI hs ha hO hq y0 y1 hsz hg5; have y0 := H7.out.cell (i := 2) rfl 0 _ rfl; have y1 := H7.out.cell (i := 2) rfl 1 _ rfl; have x0 := H7.out.cell (i := 3) rfl 0 _ rfl; have x1 := H7.out.cell (i := 3) rfl 1 _ rfl; have x2 := H7.out.frozen (i := 3) rfl 0; have x3 := H7.out.frozen (i := 3) rfl 1)
            | (have hreq := C2; go_at_call 24; (with_reducible refine Calls.mono C2.out ?_); rintro e v2 ⟨⟨sa8, sn8, sc8, aa8, an8, ac8, s8, a8⟩, rfl, hI, hs, ha, hO, hq⟩; have hlt := (H7.out.rlt (i := 2) rfl).1; have hsz := hq.size; have ne5 : ¬ g5 = v2.heap.size := (by omega); have ne6 : ¬ v2.heap.size = g5 := (by omega); have H8 := Lib.hid (H7.out.arrNew hI hO hq); have HV8 := Lib.hid (And.intro hs ha); simp only [Ar.v]; clear hI hs ha hO hq hreq C2 C3 y0 y1 hlt hsz; have y0 := H8.out.cell (i := 2) rfl 0 _ rfl; have y1 := H8.out.cell (i := 2) rfl 1 _ rfl)
            | (have hreq := C3; go_at_call 24; (with_reducible refine Calls.mono C3.out ?_); rintro e v2 ⟨⟨sa8, sn8, sc8, aa8, an8, ac8, s8, a8⟩, rfl, hI, hs, ha, hO, hq⟩; have H8 := Lib.hid ((H7.out.alloc 38 2 1 #[.slice none 0 0, .slice none 0 0] rfl (by decide)).arrNew hI hO hq); have HV8 := Lib.hid (And.intro hs ha); simp only [Ar.v]; clear hI hs ha hO hq hreq C2 C3 y0 y1; have y0 := H8.out.cell (i := 2) rfl 0 _ rfl; have y1 := H8.out.cell (i := 2) rfl 1 _ rfl; have x0 := H8.out.cell (i := 3) rfl 0 _ rfl; have x1 := H8.out.cell (i := 3) rfl 1 _ rfl; have x2 := H8.out.frozen (i := 3) rfl 0; have x3 := H8.out.frozen (i := 3) rfl 1)
            | (have hreq := C4; go_at_call 24; (with_reducible refine Calls.mono C4.out ?_); rintro e v2 ⟨⟨sa8, sn8, sc8, aa8, an8, ac8, s8, a8⟩, rfl, hI, hs, ha, hO, hq⟩; have H8 := Lib.hid (H7.out.arrNew hI hO hq); have HV8 := Lib.hid (And.intro hs ha); simp only [Ar.v]; clear hI hs ha hO hq hreq C4 y0 y1 x0 x1 x2 x3; have y0 := H8.out.cell (i := 2) rfl 0 _ rfl; have y1 := H8.out.cell (i := 2) rfl 1 _ rfl; have x0 := H8.out.cell (i := 3) rfl 0 _ rfl; have x1 := H8.out.cell (i := 3) rfl 1 _ rfl; have x2 := H8.out.frozen (i := 3) rfl 0; have x3 := H8.out.frozen (i := 3) rfl 1)
            )
          all_goals
            go_wp2_with fail
            go_meet
            first
            | exact ⟨v2.heap.size, ⟨sa8, sn8, sc8, aa8, an8, ac8, s8, a8⟩, rfl, rfl, (H8.out.alloc 38 2 1 #[.slice sa8 sn8 sc8, .slice aa8 an8 ac8] rfl (by decide)).pick [3, 4] (by decide), HV8⟩
            | exact ⟨v1.heap.size, ⟨sa8, sn8, sc8, aa8, an8, ac8, s8, a8⟩, rfl, rfl, ((H8.out.put (i := 3) rfl 0 (.slice sa8 sn8 sc8)).put (i := 3) rfl 1 (.slice aa8 an8 ac8)).pick [4, 3] (by decide), HV8⟩
            | exact ⟨W.heap.size, ⟨sa8, sn8, sc8, aa8, an8, ac8, s8, a8⟩, rfl, rfl, ((H8.out.put (i := 3) rfl 0 (.slice sa8 sn8 sc8)).put (i := 3) rfl 1 (.slice aa8 an8 ac8)).pick [4, 3] (by decide), HV8⟩
        case rest =>
          obtain ⟨g8, ⟨sa8, sn8, sc8, aa8, an8, ac8, s8, a8⟩, rfl, rfl, HO, HV8⟩ := hcut
          simp only at HO HV8
          obtain ⟨U, hU⟩ : ∃ z : World, z = wc := ⟨_, rfl⟩
          subst hU
          have HB := Lib.hid HO.out.belowN
          rcases hE2 with h14 | ⟨h0, hz⟩
          · subst h14
            go_wp2
            go_ret
            exact RetB.mk rfl HB.out
          · subst h0
            have HZ := Lib.hid hz
            have HSX := Lib.hid (HS.out.below HB.out (Nat.le_refl _))
            clear hz H6 y0 y1
            go_wp2_with fail
            go_loop [14] (fun v14 => ∃ i : Nat, i ≤ n ∧ v14 = .int .i64 i ∧ Hid (∀ j, j < i → xs.getD j 0 ≠ 0)) (fun v14 => n - (RowKit.intOf v14).toNat)
            case atStart => exact ⟨0, by omega, rfl, fun j hj => absurd hj (by omega)⟩
            case round =>
              obtain ⟨i, hi2, rfl, HN⟩ := hrel
              by_cases hlt : i < n
              · have hlt' : (i : Int) < n := by omega
                obtain ⟨b1, o1, e1, hc1⟩ := HSX.out.at (by omega)
                have d1 := hc1 i hlt
                obtain ⟨v, HVV⟩ : ∃ z, Hid (xs.getD i 0 = z) := ⟨_, rfl⟩
                rw [HVV.out] at d1
                subst e1
                clear hc1
                by_cases hv : v = 0
                · have q1 : (v == 0) = true := by simpa using hv
                  clear hv
                  go_wp2
                  go_ret
                  exact RetB.mk rfl HB.out
                · have q1 : (v == 0) = false := by simpa using hv
                  have HN' : Hid (∀ j, j < i + 1 → xs.getD j 0 ≠ 0) := fun j hj => by
                    by_cases hji : j = i
                    · subst hji; rw [HVV.out]; exact hv
                    · exact HN.out j (by omega)
                  clear hv
                  go_wp2
                  go_round
                  case rel => exact ⟨i + 1, by omega, by go_num, HN'⟩
                  case measure => simp [RowKit.intOf]; omega
              · have hge : ¬ ((i : Int) < n) := by omega
                obtain rfl : i = n := by omega
                have hA2 := HZ.out HN.out
                have HE : Hid (∀ (W1 : World) (B : Ar), Below U.heap.size U W1 → B.Is W1 → B.s = [] → B.a = [x] → Calls Try.prog 15 #[.agg #[.slice sa8 sn8 sc8, .slice aa8 an8 ac8], B.v] W1 (RetB W1 (.bool true))) := fun W1 B hb hB q1 q2 => by
                  have q := eq4_any ((HO.out.via hb).isA (i := 0) rfl) hB
                  have e1 := HV8.out.1
                  have e2 := HV8.out.2
                  rw [hA2] at e2
                  simp only [e1, e2, q1, q2, and_self, decide_true, Ar.v] at q
                  exact q
                have z0 := HO.out.cell (i := 1) rfl 0 _ rfl
                have z1 := HO.out.cell (i := 1) rfl 1 _ rfl
                clear hA2
                go_wp2_with fail
                go_region_held3 (fun v => v.cell? ⟨g8, 0, none⟩ = some (.slice sa8 sn8 sc8) ∧ v.cell? ⟨g8, 1, none⟩ = some (.slice aa8 an8 ac8)) (go_keep)
                  (first
                  | (go_at_call 23; (with_reducible refine Calls.mono (CS.out _) ?_); rintro e v2 ⟨⟨ta2, tn2, tc2, ua2, un2, uc2, ts2, us2⟩, rfl, hI, hs, ha, -, hq⟩; have HC2 : Hid (Below U.heap.size U v2) := (by show Below _ _ _; exact abvia (adrew1 _) hq); have F1 := Lib.hid (HE.out v2 _ HC2.out hI hs ha); simp only [Ar.v] at F1 ⊢; clear hI hs ha hq CS z0 z1; have z0 := (HO.out.via HC2.out).cell (i := 1) rfl 0 _ rfl; have z1 := (HO.out.via HC2.out).cell (i := 1) rfl 1 _ rfl)
                  | (go_at_call 15; (with_reducible refine Calls.mono F1.out ?_); rintro e v3 ⟨rfl, hq⟩; have HC3 : Hid (Below U.heap.size U v3) := (by show Below _ _ _; exact abvia HC2.out hq); clear hq F1 z0 z1; have z0 := (HO.out.via HC3.out).cell (i := 1) rfl 0 _ rfl; have z1 := (HO.out.via HC3.out).cell (i := 1) rfl 1 _ rfl)
                  )
                all_goals
                  have HBE := Lib.hid (HO.out.via HC3.out).belowN
                  go_wp2
                  go_ret
                  exact RetB.mk rfl HBE.out
end Go.Proofs.Ytoippfoeghjdoaa

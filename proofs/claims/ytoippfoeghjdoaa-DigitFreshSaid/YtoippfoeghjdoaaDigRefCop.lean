/- The document's copied (layer 8). -/
import Derived.Test.YtoippfoeghjdoaaDigRef3
import Derived.Test.YtoippfoeghjdoaaRef6Item
namespace Go.Proofs.Ytoippfoeghjdoaa
open Go.RowKit Go.Lib
set_option linter.unusedVariables false
set_option linter.unusedSimpArgs false
attribute [local go_sem] alloc_drewN setCell_drewN
theorem rep_at {m i : Nat} {x : Int} (h : i < m) : (List.replicate m x).getD i 0 = x := by simp [List.getD_eq_getElem?_getD, List.getElem?_replicate, h]
theorem nn_of8 {l : List Int} (h : l.any (fun k => decide (k < 0)) = false) (j : Nat) : 0 ≤ l.getD j 0 := by
  rcases Int.lt_or_le (l.getD j 0) 0 with h3 | h3
  · by_cases hj : j < l.length
    · exact absurd (any_neg_iff.2 ⟨j, hj, h3⟩) (by rw [h]; simp)
    · simp [List.getD, List.getElem?_eq_none (show l.length ≤ j by omega)]
  · exact h3
theorem may_at8 {s : List Int} (h : mayE s = 0) (i : Nat) : s.getD i 0 ≤ 4096 := by
  have q1 := (pm_up s i).2.2
  have q2 := pm_all s (i + 1)
  have q3 := (mayE_zero h).2.2
  omega
/-- How often each item is copied. -/
def tmL (s a t : List Int) : List Int := if s.length = 0 then List.replicate (if t.length = 0 then 1 else (t.getD 0 0).toNat) (a.getD 0 0) else a
theorem tmL_len {s a t : List Int} (h1 : s.length = 0 → a.length = 1) (hw : ¬ cpW s a t) (h2 : s.length ≤ 1) (ht : 0 ≤ t.getD 0 0) : (tmL s a t).length = cpN a t := by
  unfold tmL cpN
  by_cases hs : s.length = 0
  · rw [if_pos hs, List.length_replicate]
    split
    · rw [h1 hs]
    · rfl
  · rw [if_neg hs]
    split
    · rfl
    · rename_i h
      have : (a.length : Int) = t.getD 0 0 := by
        rcases Decidable.em ((a.length : Int) = t.getD 0 0) with q | q
        · exact q
        · exact absurd ⟨by omega, by omega, q⟩ hw
      omega
theorem tmL_at {s a t : List Int} {i : Nat} (hi : i < (tmL s a t).length) : (tmL s a t).getD i 0 = pkV s a i := by
  unfold tmL at hi ⊢
  unfold pkV
  by_cases hs : s.length = 0
  · rw [if_pos hs] at hi ⊢
    rw [if_pos hs]
    rw [List.length_replicate] at hi
    exact rep_at hi
  · rw [if_neg hs, if_neg hs]
theorem tmL_U {s a t : List Int} : ∀ k, k ≤ (tmL s a t).length → cpU [0] (tmL s a t) k = cpU s a k
  | 0, _ => rfl
  | k + 1, hk => by rw [cpU0_step, tmL_U k (by omega), tmL_at (by omega), cpU]
theorem tmL_neg {s a t : List Int} (h : a.any (fun k => decide (k < 0)) = false) : (tmL s a t).any (fun k => decide (k < 0)) = false := by
  unfold tmL
  split
  · have h0 := nn_of8 h 0
    rw [Bool.eq_false_iff]
    intro hq
    obtain ⟨i, hi, h2⟩ := any_neg_iff.1 hq
    rw [List.length_replicate] at hi
    rw [rep_at hi] at h2
    omega
  · exact h
theorem may_big {x : Int} {t : List Int} (h : 4096 < x) : mayE (x :: t) ≠ 0 := fun h0 => by
  have q1 := (pm_up (x :: t) 0).2.2
  have q2 := pm_all (x :: t) 1
  have q3 := (mayE_zero h0).2.2
  rw [List.getD_cons_zero, Nat.zero_add] at q1
  omega
theorem cpK_le (t b : List Int) (i : Nat) : (cpK t b i).length ≤ b.length := by
  unfold cpK ckL
  rw [List.length_take, List.length_drop]
  omega
theorem cpR_le {s a t b : List Int} (h : a.any (fun k => decide (k < 0)) = false) : ∀ i, (cpR s a t b i).length ≤ (cpU s a i).toNat * b.length
  | 0 => by simp [cpR]
  | i + 1 => by
    have h1 := cpR_le (s := s) (t := t) (b := b) h i
    have h2 := (cpU_mono (s := s) h i 0).1
    have h3 := pk_nonneg (s := s) h i
    have h4 := Nat.mul_le_mul_left (pkV s a i).toNat (cpK_le t b i)
    rw [cpR, List.length_append, rep_len rfl, cpU, Int.toNat_add h2 h3, Nat.add_mul]
    omega
set_option maxRecDepth 100000 in
set_option maxHeartbeats 12800000 in
theorem rcopied_any {w : World} {X Y : Ar} (hX : X.Is w) (hY : Y.Is w) (h1 : X.sn ≤ 1) (hmx : amE X.s X.a = 0) (hmy : amE Y.s Y.a = 0) :
    Calls Try.prog 60 #[X.v, Y.v] w (MadeE w (cpS X.s X.a Y.s) (cpA X.s X.a Y.s Y.a) (cpE X.s X.a Y.s)) := by
  obtain ⟨sa, sn, sc, aa, an, ac, s, a⟩ := X
  obtain ⟨ta, tn, tc, ba, bn, bc, t, b⟩ := Y
  simp only [Ar.v]
  simp only at h1 hmx hmy
  have HLX := Lib.hid (show s.length = sn ∧ a.length = an from ⟨hX.shp.len, hX.ats.len⟩)
  have HLY := Lib.hid (show t.length = tn ∧ b.length = bn from ⟨hY.shp.len, hY.ats.len⟩)
  have HX := Lib.hid hX
  have HY := Lib.hid hY
  have han := amE_an hmx
  have hbn := amE_an hmy
  have hsc : sn = 0 → an = 1 := fun h => by have := amE_scalar hmx (by have := HLX.out.1; omega); have := HLX.out.2; omega
  have htc : tn = 0 → bn = 1 := fun h => by have := amE_scalar hmy (by have := HLY.out.1; omega); have := HLY.out.2; omega
  rw [HLX.out.2] at han
  rw [HLY.out.2] at hbn
  have ht0 := (mayE_zero (amE_zero hmy).1).1 0
  have ht8 := (mayE_zero (amE_zero hmy).1).2.1
  rw [HLY.out.1] at ht8
  obtain ⟨t0, HT0⟩ : ∃ z : Nat, Hid (t.getD 0 0 = z) := ⟨(t.getD 0 0).toNat, (Int.toNat_of_nonneg ht0).symm⟩
  have ht4 := may_at8 (amE_zero hmy).1 0
  rw [HT0.out] at ht4
  obtain ⟨W, HW⟩ : ∃ z, Hid (((w.alloc (.cells #[.slice sa sn sc, .slice aa an ac] 38)).alloc (.cells #[.slice ta tn tc, .slice ba bn bc] 38)).alloc (.cells #[.slice none 0 0, .slice none 0 0] 38) = z) := ⟨_, rfl⟩
  have h0 := (((Sp.start Non w).alloc 38 2 1 #[.slice sa sn sc, .slice aa an ac] rfl (by decide)).alloc 38 2 1 #[.slice ta tn tc, .slice ba bn bc] rfl (by decide)).alloc 38 2 1 #[.slice none 0 0, .slice none 0 0] rfl (by decide)
  rw [HW.out] at h0
  obtain ⟨g, HG⟩ : ∃ z, Hid (w.heap.size = z) := ⟨_, rfl⟩
  have H1_ := h0
  try simp only [List.cons_append, List.nil_append, List.set_cons_zero, List.set_cons_succ, List.map_cons, List.map_nil, List.getD_cons_zero, List.getD_cons_succ, World.size_alloc] at H1_
  have H1 := Lib.hid H1_
  clear H1_
  rw [HG.out] at H1
  have BAD : Hid (∀ w1, Below W.heap.size W w1 → ∀ e u v, MadeE w [] [] e (.returned (.tuple #[.agg #[.slice none 0 0, .slice none 0 0], .int .i64 e])) ((w1.setCell ⟨g + 1 + 1, 0, none⟩ u).setCell ⟨g + 1 + 1, 1, none⟩ v)) := fun w1 hb e u v => made_nil e (((H1.out.via hb).put (i := 2) rfl 0 u).put (i := 2) rfl 1 v).belowN
  have x0 := H1.out.cell (i := 0) rfl 0 _ rfl
  have x1 := H1.out.cell (i := 0) rfl 1 _ rfl
  have y0 := H1.out.cell (i := 1) rfl 0 _ rfl
  have y1 := H1.out.cell (i := 1) rfl 1 _ rfl
  obtain ⟨E, HE⟩ : ∃ z, Hid (cpE s a t = z) := ⟨_, rfl⟩
  obtain ⟨S, HS⟩ : ∃ z, Hid (cpS s a t = z) := ⟨_, rfl⟩
  obtain ⟨A, HA⟩ : ∃ z, Hid (cpA s a t b = z) := ⟨_, rfl⟩
  rw [HE.out, HS.out, HA.out]
  have hshp : 0 < tn → ∃ b3 o3, ta = some ⟨b3, o3, none⟩ ∧ W.cell? ⟨b3, o3, none⟩ = some (.int .i64 t0) := fun h => by
    obtain ⟨b3, o3, e3, hc3⟩ := (hY.below H1.out.belowN (Nat.le_refl _)).shp.at (by simp only; omega)
    have d3 := hc3 0 (by simp only; omega)
    simp only [Nat.add_zero] at e3 d3
    rw [HT0.out] at d3
    exact ⟨b3, o3, e3, d3⟩
  clear hX hY h0
  by_cases hw : cpW s a t
  · have r1 : E = 11 := by rw [← HE.out, cpE, if_pos hw]
    have r2 : S = [] := by rw [← HS.out, cpS, if_neg (by rw [HE.out, r1]; decide)]
    have r3 : A = [] := by rw [← HA.out, cpA, if_neg (by rw [HE.out, r1]; decide)]
    obtain ⟨q1, q2, q3⟩ := hw
    rw [HLX.out.1] at q1
    rw [HLY.out.1] at q2
    rw [HLX.out.2, HT0.out] at q3
    obtain ⟨b3, o3, e3, d3⟩ := hshp q2
    subst r1 r2 r3 q1 e3
    have q4 : ((an : Int) != t0) = true := by simp; omega
    have q5 : (0 : Int) < tn := by omega
    have z0 := H1.out.cell (i := 2) rfl 0 _ rfl
    have z1 := H1.out.cell (i := 2) rfl 1 _ rfl
    have z2 := H1.out.frozen (i := 2) rfl 0
    have z3 := H1.out.frozen (i := 2) rfl 1
    have HF := Lib.hid (fun q u v => BAD.out (W.drewN q) (adrew W q) 11 u v)
    clear q3 hshp hmx hmy
    go_enter Try.func60, Try.ntmps60
    go_wp2_with fail
    rw [HW.out, HG.out]
    go_quiet (fail)
    go_wp2
    exact bodyPost_ret (v := .tuple #[.agg #[.slice none 0 0, .slice none 0 0], .int .i64 11]) (by simp [results, Try.results60, go_sem, *]) rfl (HF.out _ _ _)
  · have hE : E = if a.any (fun k => decide (k < 0)) then 10 else if mayE (cpT s a t :: t.tail) = 0 then 0 else 17 := by rw [← HE.out, cpE, if_neg hw]
    have hS : S = if E = 0 then cpT s a t :: t.tail else [] := by rw [← HS.out, cpS, HE.out]
    have hA : A = if E = 0 then cpR s a t b (cpN a t) else [] := by rw [← HA.out, cpA, HE.out]
    have HEE := Lib.hid (And.intro hE (And.intro hS hA))
    have hNl := tmL_len (s := s) (a := a) (t := t) (fun h => by rw [HLX.out.1] at h; rw [HLX.out.2]; exact hsc h) hw (by rw [HLX.out.1]; exact h1) ht0
    obtain ⟨N, HN⟩ : ∃ z, Hid (cpN a t = z) := ⟨_, rfl⟩
    rw [HN.out] at hNl
    have hN4 : N ≤ 4096 := by
      rw [← HN.out, cpN]
      split
      · rw [HLX.out.2]; exact han
      · rw [HT0.out]; omega
    have HNL := Lib.hid hNl
    have HMM := Lib.hid (And.intro hmx hmy)
    have HSC := Lib.hid (And.intro hsc htc)
    have HSHP := Lib.hid hshp
    clear hsc htc
    go_enter Try.func60, Try.ntmps60
    go_wp2_with fail
    rw [HW.out, HG.out]
    go_cut [36] from 17 to 37 (fun v36 wx => v36 = .bool false ∧ ∃ q, wx = W.drewN q)
    case first =>
      by_cases q1 : sn = 1
      · by_cases q2 : tn = 0
        · subst q1 q2
          clear hw hE hS hA hshp hmx hmy hNl
          go_wp2_with fail
          go_quiet (fail)
          go_wp2_with fail
          go_meet
          exact ⟨rfl, _, rfl⟩
        · obtain ⟨b3, o3, e3, d3⟩ := hshp (by omega)
          have q3 : an = t0 := by
            rcases Decidable.em (an = t0) with q | q
            · exact q
            · exact absurd ⟨by rw [HLX.out.1, q1], by rw [HLY.out.1]; omega, by rw [HLX.out.2, HT0.out]; omega⟩ hw
          have q5 : (0 : Int) < tn := by omega
          have q6 : 0 < tn := by omega
          subst q1 e3 q3
          clear hw hE hS hA hshp hmx hmy hNl
          go_wp2_with fail
          go_quiet (fail)
          go_wp2_with fail
          go_meet
          exact ⟨rfl, _, rfl⟩
      · have q3 : sn = 0 := by omega
        subst q3
        clear hw hE hS hA hshp hmx hmy hNl q1
        go_wp2_with fail
        go_quiet (fail)
        go_wp2_with fail
        go_meet
        exact ⟨rfl, _, rfl⟩
    case rest =>
      obtain ⟨rfl, q, hq⟩ := hcut
      obtain ⟨U, hU⟩ : ∃ z : World, z = wc := ⟨_, rfl⟩
      subst hU
      have H2 : Hid (Sp Non w U [Pt.row ⟨38, 2, some ⟨g, 0, none⟩, 1, 1, [.slice sa sn sc, .slice aa an ac]⟩, Pt.row ⟨38, 2, some ⟨g + 1, 0, none⟩, 1, 1, [.slice ta tn tc, .slice ba bn bc]⟩, Pt.row ⟨38, 2, some ⟨g + 1 + 1, 0, none⟩, 1, 1, [.slice none 0 0, .slice none 0 0]⟩]) := by
        show Sp _ _ _ _
        rw [hq]
        exact H1.out.via (adrew W q)
      have HBW : Hid (Below W.heap.size W U) := by show Below _ _ _; rw [hq]; exact adrew W q
      clear x0 x1 y0 y1 hw hE hS hA hshp hmx hmy hNl hq H1 HE HS HA
      have x0 := H2.out.cell (i := 0) rfl 0 _ rfl
      have x1 := H2.out.cell (i := 0) rfl 1 _ rfl
      have CT0 := rtotal_any (HX.out.below H2.out.belowN (Nat.le_refl _)).ats
      simp only at CT0
      cases hneg : a.any (fun k => decide (k < 0))
      · rw [hneg] at CT0
        have CT := Lib.hid CT0
        have HNEG := Lib.hid hneg
        obtain ⟨tv, HTV⟩ : ∃ z, Hid (ttV a = z) := ⟨_, rfl⟩
        rw [HTV.out] at CT
        clear CT0 hneg
        go_wp2_with fail
        refine CT.out.mono ?_; rintro e w' ⟨rfl, hw'⟩
        have hw'' := hw'.symm
        subst hw''
        clear hw' CT
        go_upto_if 52 with fail
        go_cut [8, 9] from 52 to 66 (fun v8 v9 wx => ∃ (TP : Pt) (tmo : Option Addr) (c' : Nat), v8 = .slice tmo N c' ∧ Hid (Sp Non w wx [Pt.row ⟨38, 2, some ⟨g, 0, none⟩, 1, 1, [.slice sa sn sc, .slice aa an ac]⟩, Pt.row ⟨38, 2, some ⟨g + 1, 0, none⟩, 1, 1, [.slice ta tn tc, .slice ba bn bc]⟩, Pt.row ⟨38, 2, some ⟨g + 1 + 1, 0, none⟩, 1, 1, [.slice none 0 0, .slice none 0 0]⟩, TP]) ∧ Hid (∀ (w1 : World) (L : List Pt) (i : Nat), L[i]? = some TP → Sp Non w w1 L → Ls w1 tmo N c' (tmL s a t)))
        case first =>
          by_cases q1 : sn = 0
          · have htm : tmL s a t = List.replicate N (a.getD 0 0) := by
              have h := HNL.out
              unfold tmL at h ⊢
              rw [if_pos (by rw [HLX.out.1]; exact q1)] at h ⊢
              rw [List.length_replicate] at h
              rw [h]
            have hNi : (if t.length = 0 then (1 : Int) else t.getD 0 0) = (N : Int) := by
              have h := HNL.out
              unfold tmL at h
              rw [if_pos (by rw [HLX.out.1]; exact q1), List.length_replicate] at h
              split at h
              · rename_i h2; rw [if_pos h2]; omega
              · rename_i h2; rw [if_neg h2, HT0.out]; rw [HT0.out] at h; omega
            have CI := Lib.hid (fun (w1 : World) (hb : Below w.heap.size w w1) => ritems_any (HY.out.below hb (Nat.le_refl _)))
            simp only [hNi, Ar.v] at CI
            have han1 := HSC.out.1 q1
            obtain ⟨xv, HXV⟩ : ∃ z, Hid (a.getD 0 0 = z) := ⟨_, rfl⟩
            have hxr := HX.out.ats.rng 0
            simp only at hxr
            rw [HXV.out] at htm hxr
            have HTM := Lib.hid htm
            have HXR := Lib.hid hxr
            subst q1 han1
            have H3 : Hid (Sp Non w U [Pt.row ⟨38, 2, some ⟨g, 0, none⟩, 1, 1, [.slice sa 0 sc, .slice aa 1 ac]⟩, Pt.row ⟨38, 2, some ⟨g + 1, 0, none⟩, 1, 1, [.slice ta tn tc, .slice ba bn bc]⟩, Pt.row ⟨38, 2, some ⟨g + 1 + 1, 0, none⟩, 1, 1, [.slice none 0 0, .slice none 0 0]⟩, Pt.ints 2 none 0 0 []]) := H2.out.intsNew (E := 2) (zs := []) (World.ownsRow_nil _ _ _ _) (Below.refl _ _) (by omega) (fun i => by simp [List.getD])
            obtain ⟨j0, hj0, hya, hyb, hyc⟩ := info_parts (P := Try.prog) (e := 2) (z := .int .i64 0) (size := 1) (bytes := 8) (by kernel_rfl)
            have HJ0 := Lib.hid (And.intro hj0 (And.intro hya (And.intro hyb hyc)))
            clear hj0 hya hyb hyc htm hNi hxr x0 x1 H2
            go_wp2_with fail
            go_loopw [8, 9] (fun v8 v9 wr => ∃ (k : Nat) (lo : Option Addr) (lc : Nat), k ≤ N ∧ v9 = .int .i64 k ∧ v8 = .slice lo k lc ∧ Hid (Sp Non w wr [Pt.row ⟨38, 2, some ⟨g, 0, none⟩, 1, 1, [.slice sa 0 sc, .slice aa 1 ac]⟩, Pt.row ⟨38, 2, some ⟨g + 1, 0, none⟩, 1, 1, [.slice ta tn tc, .slice ba bn bc]⟩, Pt.row ⟨38, 2, some ⟨g + 1 + 1, 0, none⟩, 1, 1, [.slice none 0 0, .slice none 0 0]⟩, Pt.ints 2 lo k lc (List.replicate k xv)])) (fun _ v9 _ => N - (RowKit.intOf v9).toNat)
            case atStart => exact ⟨0, none, 0, by omega, rfl, rfl, H3⟩
            case round =>
              clear H3
              obtain ⟨k, lo, lc, hk, rfl, rfl, HO⟩ := hrel
              have y0 := HO.out.cell (i := 1) rfl 0 _ rfl
              have y1 := HO.out.cell (i := 1) rfl 1 _ rfl
              have C1 := Lib.hid (CI.out wr HO.out.belowN)
              go_wp2_with fail
              refine C1.out.mono ?_; rintro e w3 ⟨rfl, hb3⟩
              have HO3 := Lib.hid (HO.out.via hb3)
              clear hb3 HO y0 y1 C1
              by_cases hlt : k < N
              · have hlt' : (k : Int) < N := by omega
                obtain ⟨b1, o1, e1, hc1⟩ := (HX.out.below HO3.out.belowN (Nat.le_refl _)).ats.at (by simp only; omega)
                have d1 := hc1 0 (by simp only; omega)
                simp only [Nat.add_zero] at e1 d1
                rw [HXV.out] at d1
                subst e1
                have x1 := HO3.out.cell (i := 0) rfl 1 _ rfl
                have HV := Lib.hid (HO3.out.via (abal w3 (.cells #[.int .i64 xv] 2)))
                have HLL := Lib.hid (ls_lit1 w3 2 HXR.out)
                have hb1 : (k + 1) * 8 ≤ 140737488351232 := by omega
                clear hc1
                go_wp2_with (at_builtin; refine Sp.wpList_loc (i := 3) HV.out rfl _ _ 28 rfl 2 j0 Try.underlying28 HJ0.out.1 HJ0.out.2.1 HJ0.out.2.2.1 HJ0.out.2.2.2 rfl rfl rfl HLL.out hb1 ?_)
                intro b9 d9 w9 h9
                have H9 : Hid (Sp Non w w9 [Pt.row ⟨38, 2, some ⟨g, 0, none⟩, 1, 1, [.slice sa 0 sc, .slice (some ⟨b1, o1, none⟩) 1 ac]⟩, Pt.row ⟨38, 2, some ⟨g + 1, 0, none⟩, 1, 1, [.slice ta tn tc, .slice ba bn bc]⟩, Pt.row ⟨38, 2, some ⟨g + 1 + 1, 0, none⟩, 1, 1, [.slice none 0 0, .slice none 0 0]⟩, Pt.ints 2 b9 (k + 1) d9 (List.replicate (k + 1) xv)]) := by
                  show Sp _ _ _ _
                  rw [List.replicate_succ']
                  exact h9
                clear h9 HV HO3 x1
                go_wp2
                go_roundw
                case rel => exact ⟨k + 1, b9, d9, by omega, by go_num, rfl, H9⟩
                case measure => simp [RowKit.intOf] <;> omega
              · have hge : ¬ ((k : Int) < N) := by omega
                obtain rfl : k = N := by omega
                have HGET : Hid (∀ (w1 : World) (L : List Pt) (i : Nat), L[i]? = some (Pt.ints 2 lo k lc (List.replicate k xv)) → Sp Non w w1 L → Ls w1 lo k lc (tmL s a t)) := fun w1 L i e h => by rw [HTM.out]; exact h.ls e
                go_wp2_with fail
                go_meet
                exact ⟨_, lo, lc, rfl, HO3, HGET⟩
          · have q2 : ((sn : Int) == 0) = false := by simp; omega
            have htm : tmL s a t = a := by unfold tmL; rw [if_neg (by rw [HLX.out.1]; exact q1)]
            have hNa : N = an := by rw [← HNL.out, htm, HLX.out.2]
            subst hNa
            have H3 := Lib.hid (H2.out.rowNil 3 1)
            have HGET : Hid (∀ (w1 : World) (L : List Pt) (i : Nat), L[i]? = some (Pt.row ⟨3, 1, none, 0, 0, []⟩) → Sp Non w w1 L → Ls w1 aa N ac (tmL s a t)) := fun w1 L i e h => by rw [htm]; exact (HX.out.below h.belowN (Nat.le_refl _)).ats
            clear q1 htm H2
            go_wp2_with fail
            go_meet
            exact ⟨_, aa, ac, rfl, H3, HGET⟩
        case rest =>
          obtain ⟨TP, tmo, c', rfl, H3, HGET⟩ := hcut
          obtain ⟨U2, hU⟩ : ∃ z : World, z = wc := ⟨_, rfl⟩
          subst hU
          have CT2 := rtotal_any (HGET.out _ _ 3 rfl H3.out)
          have hn2 := tmL_neg (t := t) (s := s) HNEG.out
          have hU2 := tmL_U (s := s) (a := a) (t := t) N (by rw [HNL.out]; exact Nat.le_refl _)
          have htv : ttV (tmL s a t) = if cpU s a N ≤ 4096 then cpU s a N else 5000 := by
            unfold ttV ttN
            rw [hn2, HNL.out, hU2]
            rfl
          rw [hn2] at CT2
          have hu0 : 0 ≤ cpU s a N := (cpU_mono (s := s) HNEG.out N 0).1
          have hcT : cpT s a t = if cpU s a N ≤ 4096 then cpU s a N else 4097 := by unfold cpT; rw [HN.out]
          obtain ⟨T, HT⟩ : ∃ z, Hid (ttV (tmL s a t) = z) := ⟨_, rfl⟩
          rw [HT.out] at CT2 htv
          have hT5 : 0 ≤ T ∧ T ≤ 5000 := by rw [htv]; split <;> omega
          have hmm : (mayE (cpT s a t :: t.tail) = 0 ↔ mayE (T :: t.tail) = 0) ∧ (mayE (T :: t.tail) = 0 → cpT s a t = T) := by
            by_cases hq : cpU s a N ≤ 4096
            · rw [if_pos hq] at htv hcT
              rw [htv, hcT]
              exact ⟨Iff.rfl, fun _ => rfl⟩
            · rw [if_neg hq] at htv hcT
              rw [htv, hcT]
              exact ⟨⟨fun h => absurd h (may_big (by omega)), fun h => absurd h (may_big (by omega))⟩, fun h => absurd h (may_big (by omega))⟩
          have HMT := Lib.hid hmm
          have CT := Lib.hid CT2
          have HT5 := Lib.hid hT5
          clear CT2 hn2 hU2 htv hu0 hcT hmm hT5 x0 x1 H2
          go_wp2_with fail
          refine CT.out.mono ?_; rintro e w' ⟨rfl, hw'⟩
          have hw'' := hw'.symm
          subst hw''
          clear hw' CT
          have hT6 := HT5.out
          have h4 := (H3.out.alloc 3 1 1 #[.int .i64 T] rfl (by decide)).toInts (i := 4) (zs := [T]) rfl (by omega) (rng_one (by omega))
          obtain ⟨U3, HU3⟩ : ∃ z, Hid (U2.alloc (.cells #[.int .i64 T] 3) = z) := ⟨_, rfl⟩
          obtain ⟨gs, HGS⟩ : ∃ z, Hid (U2.heap.size = z) := ⟨_, rfl⟩
          rw [HU3.out] at h4
          have H4_ := h4
          try simp only [List.cons_append, List.nil_append, List.set_cons_zero, List.set_cons_succ, List.map_cons, List.map_nil, List.getD_cons_zero, List.getD_cons_succ, World.size_alloc] at H4_
          have H4 := Lib.hid H4_
          clear H4_
          rw [HGS.out] at H4
          have y0 := H4.out.cell (i := 1) rfl 0 _ rfl
          have y1 := H4.out.cell (i := 1) rfl 1 _ rfl
          clear h4 H3 hT6
          go_upto_region 15 with fail
          rw [HU3.out, HGS.out]
          go_upto_if 76 with fail
          go_cut [12] from 76 to 82 (fun v12 wx => ∃ (so : Option Addr) (sl sd : Nat), v12 = .slice so sl sd ∧ Hid (Sp Non w wx [Pt.row ⟨38, 2, some ⟨g, 0, none⟩, 1, 1, [.slice sa sn sc, .slice aa an ac]⟩, Pt.row ⟨38, 2, some ⟨g + 1, 0, none⟩, 1, 1, [.slice ta tn tc, .slice ba bn bc]⟩, Pt.row ⟨38, 2, some ⟨g + 1 + 1, 0, none⟩, 1, 1, [.slice none 0 0, .slice none 0 0]⟩, TP, Pt.ints 3 so sl sd (T :: t.tail)]))
          case first =>
            by_cases q1 : tn = 0
            · have e0 : t = [] := List.eq_nil_of_length_eq_zero (by rw [HLY.out.1]; exact q1)
              have ht : t.tail = [] := by rw [e0]; rfl
              have H5 : Hid (Sp Non w U3 [Pt.row ⟨38, 2, some ⟨g, 0, none⟩, 1, 1, [.slice sa sn sc, .slice aa an ac]⟩, Pt.row ⟨38, 2, some ⟨g + 1, 0, none⟩, 1, 1, [.slice ta tn tc, .slice ba bn bc]⟩, Pt.row ⟨38, 2, some ⟨g + 1 + 1, 0, none⟩, 1, 1, [.slice none 0 0, .slice none 0 0]⟩, TP, Pt.ints 3 (some ⟨gs, 0, none⟩) 1 1 (T :: t.tail)]) := by
                show Sp _ _ _ _
                rw [ht]
                exact H4.out
              subst q1
              clear ht e0 H4
              go_wp2_with fail
              go_meet
              exact ⟨_, _, _, rfl, H5⟩
            · obtain ⟨i0, hi0, hza, hzb, hzc⟩ := info_parts (P := Try.prog) (e := 3) (z := .int .i64 0) (size := 1) (bytes := 8) (by kernel_rfl)
              have hshp := (HY.out.below H4.out.belowN (Nat.le_refl _)).shp
              simp only at hshp
              have hcut := ls_cutI hshp 1 (tn - 1) (by omega)
              have htt : (t.drop 1).take (tn - 1) = t.tail := by
                rw [List.drop_one, List.take_of_length_le (by rw [List.length_tail, HLY.out.1]; exact Nat.le_refl _)]
              rw [htt] at hcut
              have hcap := hshp.cap
              have z1 : (1 : Int) ≤ tn := by omega
              have z4 : (0 : Int) < tn := by omega
              have z5 : 0 < tn := by omega
              have hb1 : (1 + (tn - 1)) * 8 ≤ 140737488351232 := by omega
              obtain ⟨ro, rc, HRO, hro⟩ : ∃ ro rc, Hid (Ls U3 ro (tn - 1) rc t.tail) ∧ Value.slice (if tc = 1 then ta else ta.map fun x => x.add 1) (tn - 1) (tc - 1) = .slice ro (tn - 1) rc := ⟨_, _, hcut, rfl⟩
              clear htt hshp hcut
              by_cases hc : tc = 1
              · rw [if_pos hc] at hro
                subst hc
                have hn1 : tn = 1 := by omega
                subst hn1
                cases hro
                go_wp2_with (at_builtin; refine Sp.wpList_loc (i := 4) H4.out rfl _ _ 25 (by rfl) 3 i0 Try.underlying25 hi0 hza hzb hzc rfl (by rfl) (by rfl) HRO.out hb1 ?_)
                intro bo d w9 h9
                have H9 := Lib.hid h9
                clear h9 H4
                go_wp2_with fail
                go_meet
                exact ⟨bo, _, d, rfl, H9⟩
              · rw [if_neg hc] at hro
                cases hro
                have z2 : (tn : Int) ≤ tc := by omega
                have z3 : ¬ tc - 1 = 0 := by omega
                go_wp2_with (at_builtin; refine Sp.wpList_loc (i := 4) H4.out rfl _ _ 25 (by rfl) 3 i0 Try.underlying25 hi0 hza hzb hzc rfl (by rfl) (by rfl) HRO.out hb1 ?_)
                intro bo d w9 h9
                have H9 := Lib.hid h9
                clear h9 H4
                go_wp2_with fail
                go_meet
                exact ⟨bo, _, d, rfl, H9⟩
          case rest =>
            obtain ⟨so, sl, sd, rfl, H5⟩ := hcut
            obtain ⟨U4, hU⟩ : ∃ z : World, z = wc := ⟨_, rfl⟩
            subst hU
            clear y0 y1 H4
            have CM0 := rmay_any (H5.out.ls (i := 4) rfl)
            by_cases hm : mayE (T :: t.tail) = 0
            · have hcp := HMT.out.2 hm
              have r1 : E = 0 := by rw [HEE.out.1, HNEG.out, if_neg (by decide), if_pos (HMT.out.1.2 hm)]
              have r2 : S = T :: t.tail := by rw [HEE.out.2.1, if_pos r1, hcp]
              have r3 : A = cpR s a t b N := by rw [HEE.out.2.2, if_pos r1, HN.out]
              rw [hm] at CM0
              have CM := Lib.hid CM0
              have HRR := Lib.hid (And.intro r2 r3)
              have HMTT := Lib.hid hm
              have HCP := Lib.hid hcp
              subst r1
              clear CM0 r2 r3 hm hcp
              go_wp2_with fail
              refine CM.out.mono ?_; rintro e w' ⟨rfl, hw'⟩
              have hw'' := hw'.symm
              subst hw''
              clear hw' CM
              have h6 := (H5.out.alloc 38 2 1 #[.slice so sl sd, .slice none 0 0] rfl (by decide)).intsNew (E := 2) (zs := []) (World.ownsRow_nil _ _ _ _) (Below.refl _ _) (by omega) (fun i => by simp [List.getD])
              obtain ⟨gb, HGB⟩ : ∃ z, Hid (U4.heap.size = z) := ⟨_, rfl⟩
              rw [HGB.out] at h6
              have H6_ := h6
              try simp only [List.cons_append, List.nil_append, List.set_cons_zero, List.set_cons_succ, List.map_cons, List.map_nil, List.getD_cons_zero, List.getD_cons_succ, World.size_alloc] at H6_
              have H6 := Lib.hid H6_
              clear H6_
              clear h6 H5
              go_wp2_with fail
              rw [HGB.out]
              go_loopw [14] (fun v14 wr => ∃ (i : Nat) (lo : Option Addr) (lc : Nat), i ≤ N ∧ v14 = .int .i64 i ∧ Hid (Sp Non w wr [Pt.row ⟨38, 2, some ⟨g, 0, none⟩, 1, 1, [.slice sa sn sc, .slice aa an ac]⟩, Pt.row ⟨38, 2, some ⟨g + 1, 0, none⟩, 1, 1, [.slice ta tn tc, .slice ba bn bc]⟩, Pt.row ⟨38, 2, some ⟨g + 1 + 1, 0, none⟩, 1, 1, [.slice none 0 0, .slice none 0 0]⟩, TP, Pt.ints 3 so sl sd (T :: t.tail), Pt.row ⟨38, 2, some ⟨gb, 0, none⟩, 1, 1, [.slice so sl sd, .slice lo (cpR s a t b i).length lc]⟩, Pt.ints 2 lo (cpR s a t b i).length lc (cpR s a t b i)])) (fun v14 _ => N - (RowKit.intOf v14).toNat)
              case atStart => exact ⟨0, none, 0, by omega, rfl, H6⟩
              case round =>
                clear H6
                obtain ⟨i, lo, lc, hi, rfl, HO⟩ := hrel
                by_cases hlt : i < N
                · have hlt' : (i : Int) < N := by omega
                  obtain ⟨ln, HLN⟩ : ∃ z, Hid ((cpR s a t b i).length = z) := ⟨_, rfl⟩
                  have hsp := HO.out
                  rw [HLN.out] at hsp
                  have HO1 := Lib.hid hsp
                  obtain ⟨x, HXV⟩ : ∃ x : Nat, Hid (pkV s a i = x) := ⟨(pkV s a i).toNat, (Int.toNat_of_nonneg (pk_nonneg (s := s) HNEG.out i)).symm⟩
                  obtain ⟨e, HEV⟩ : ∃ z, Hid ((cpK t b i).length = z) := ⟨_, rfl⟩
                  have HOB := Lib.hid (HO1.out.alloc 38 2 1 #[.slice ta tn tc, .slice ba bn bc] rfl (by decide))
                  have y0 := HO1.out.cell (i := 1) rfl 0 _ rfl
                  have y1 := HO1.out.cell (i := 1) rfl 1 _ rfl
                  clear hsp HO
                  have yb0 := HOB.out.cell (i := 1) rfl 0 _ rfl
                  have yb1 := HOB.out.cell (i := 1) rfl 1 _ rfl
                  have hltN : N ≤ 4096 := hN4
                  go_upto_region 24 with fail
                  obtain ⟨W9, HW9⟩ : ∃ z, Hid (wr.alloc (.cells #[.slice ta tn tc, .slice ba bn bc] 38) = z) := ⟨_, rfl⟩
                  obtain ⟨gi, HGI⟩ : ∃ z, Hid (wr.heap.size = z) := ⟨_, rfl⟩
                  rw [HW9.out, HGI.out] at HOB
                  rw [HW9.out] at yb0 yb1
                  rw [HW9.out, HGI.out]
                  clear y0 y1
                  have y0 := HOB.out.cell (i := 1) rfl 0 _ rfl
                  have y1 := HOB.out.cell (i := 1) rfl 1 _ rfl
                  go_upto_if 98 with fail
                  go_cut [15] from 98 to 102 (fun v15 wx => ∃ (IT : Pt) (vs : Value) (io : Option Addr) (ic : Nat), v15 = .pointer (some ⟨gi, 0, none⟩) ∧ Hid (Sp Non w wx [Pt.row ⟨38, 2, some ⟨g, 0, none⟩, 1, 1, [.slice sa sn sc, .slice aa an ac]⟩, Pt.row ⟨38, 2, some ⟨g + 1, 0, none⟩, 1, 1, [.slice ta tn tc, .slice ba bn bc]⟩, Pt.row ⟨38, 2, some ⟨g + 1 + 1, 0, none⟩, 1, 1, [.slice none 0 0, .slice none 0 0]⟩, TP, Pt.ints 3 so sl sd (T :: t.tail), Pt.row ⟨38, 2, some ⟨gb, 0, none⟩, 1, 1, [.slice so sl sd, .slice lo ln lc]⟩, Pt.ints 2 lo ln lc (cpR s a t b i), Pt.row ⟨38, 2, some ⟨gi, 0, none⟩, 1, 1, [vs, .slice io e ic]⟩, IT]) ∧ Hid (∀ (w1 : World) (L : List Pt) (j : Nat), L[j]? = some IT → Sp Non w w1 L → Ls w1 io e ic (cpK t b i)))
                  case first =>
                    by_cases q1 : tn = 0
                    · have hbl := HSC.out.2 q1
                      have hcK : cpK t b i = b := by
                        have e0 : t = [] := List.eq_nil_of_length_eq_zero (by rw [HLY.out.1]; exact q1)
                        unfold cpK
                        rw [if_pos (by rw [e0]; rfl), e0]
                        show ckL (1 : Int).toNat 0 b = b
                        unfold ckL
                        rw [Nat.zero_mul, List.drop_zero, List.take_of_length_le (by rw [HLY.out.2, hbl]; exact Nat.le_refl _)]
                      have he : e = bn := by rw [← HEV.out, hcK, HLY.out.2]
                      have H8 := Lib.hid (HOB.out.rowNil 3 1)
                      have HG8 : Hid (∀ (w1 : World) (L : List Pt) (j : Nat), L[j]? = some (Pt.row ⟨3, 1, none, 0, 0, []⟩) → Sp Non w w1 L → Ls w1 ba bn bc (cpK t b i)) := fun w1 L j _ h => by rw [hcK]; exact (HY.out.below h.belowN (Nat.le_refl _)).ats
                      subst he q1
                      clear hbl hcK HOB
                      go_wp2_with fail
                      go_meet
                      exact ⟨_, _, ba, bc, rfl, H8, HG8⟩
                    · have hit : (i : Int) < t.getD 0 0 := by
                        have h := HN.out
                        unfold cpN at h
                        rw [if_neg (by rw [HLY.out.1]; exact q1), HT0.out, Int.toNat_natCast] at h
                        rw [HT0.out]; omega
                      have CIT := Lib.hid (ritem_any (HY.out.below HOB.out.belowN (Nat.le_refl _)) HMM.out.2 (by simp only; omega) i hit)
                      simp only [Ar.v] at CIT
                      have hcK : ckL (pr t.tail).toNat i b = cpK t b i := by unfold cpK; rw [if_neg (by rw [HLY.out.1]; exact q1)]
                      rw [hcK] at CIT
                      have q2 : (0 : Int) < tn := by omega
                      have q3 : 0 < tn := by omega
                      clear hit hcK
                      go_wp2_with fail
                      refine CIT.out.mono ?_; rintro e' w7 ⟨⟨sa7, sn7, sc7, aa7, an7, ac7, s7, a7⟩, rfl, hI, hs, ha, hO, hb7⟩
                      have hn7 : an7 = e := by have h1 := hI.ats.len; simp only at h1 ha; rw [← h1, ha, HEV.out]
                      subst hn7
                      have H8 := Lib.hid (HOB.out.arrNew hI hO hb7)
                      have HG8 : Hid (∀ (w1 : World) (L : List Pt) (j : Nat), L[j]? = some (Pt.arr ⟨sa7, sn7, sc7, aa7, an7, ac7, s7, a7⟩) → Sp Non w w1 L → Ls w1 aa7 an7 ac7 (cpK t b i)) := fun w1 L j e h => by
                        have h1 := (h.isA e).ats
                        simp only at h1 ha
                        rw [← ha]; exact h1
                      simp only [Ar.v]
                      have it0 := H8.out.cell (i := 7) rfl 0 _ rfl
                      have it1 := H8.out.cell (i := 7) rfl 1 _ rfl
                      have it2 := H8.out.frozen (i := 7) rfl 0
                      have it3 := H8.out.frozen (i := 7) rfl 1
                      have HP := Lib.hid ((H8.out.put (i := 7) rfl 0 (.slice sa7 sn7 sc7)).put (i := 7) rfl 1 (.slice aa7 an7 ac7))
                      clear hI hs ha hO hb7 H8 HOB y0 y1 CIT
                      go_wp2_with fail
                      go_meet
                      exact ⟨_, _, aa7, ac7, rfl, HP, HG8⟩
                  case rest =>
                    obtain ⟨IT, vs, io, ic, rfl, H8, HG8⟩ := hcut
                    obtain ⟨U9, hU⟩ : ∃ z : World, z = wc := ⟨_, rfl⟩
                    subst hU
                    clear y0 y1 yb0 yb1 HOB
                    have hlen : ∀ k, ((List.replicate k (cpK t b i)).flatten).length = k * e := fun k => by rw [rep_len HEV.out]
                    have HLEN := Lib.hid hlen
                    have hT4 := may_at8 HMTT.out 0
                    rw [List.getD_cons_zero, ← HCP.out] at hT4
                    have hUN : cpU s a N ≤ 4096 := by
                      unfold cpT at hT4
                      rw [HN.out] at hT4
                      split at hT4
                      · assumption
                      · omega
                    have hum := cpU_mono (s := s) HNEG.out (i + 1) (N - (i + 1))
                    rw [show i + 1 + (N - (i + 1)) = N by omega, cpU, HXV.out] at hum
                    have hu0 := (cpU_mono (s := s) HNEG.out i 0).1
                    have hx4 : x ≤ 4096 := by omega
                    have he4 : e ≤ 4096 := by
                      have h1 := cpK_le t b i
                      rw [HEV.out, HLY.out.2] at h1
                      omega
                    have hbig : ln + x * e ≤ 40000000 := by
                      have h1 := cpR_le (s := s) (t := t) (b := b) HNEG.out i
                      rw [HLN.out, HLY.out.2] at h1
                      have h2 := Nat.mul_le_mul (show (cpU s a i).toNat ≤ 4096 by omega) hbn
                      have h3 := Nat.mul_le_mul hx4 he4
                      omega
                    clear hT4 hUN hum hu0
                    clear hlen
                    go_wp2_with fail
                    go_loopw [16] (fun v16 wx => ∃ (k : Nat) (lo' : Option Addr) (lc' : Nat), k ≤ x ∧ (e = 0 → k = 0) ∧ v16 = .int .i64 k ∧ Hid (Sp Non w wx [Pt.row ⟨38, 2, some ⟨g, 0, none⟩, 1, 1, [.slice sa sn sc, .slice aa an ac]⟩, Pt.row ⟨38, 2, some ⟨g + 1, 0, none⟩, 1, 1, [.slice ta tn tc, .slice ba bn bc]⟩, Pt.row ⟨38, 2, some ⟨g + 1 + 1, 0, none⟩, 1, 1, [.slice none 0 0, .slice none 0 0]⟩, TP, Pt.ints 3 so sl sd (T :: t.tail), Pt.row ⟨38, 2, some ⟨gb, 0, none⟩, 1, 1, [.slice so sl sd, .slice lo' (ln + k * e) lc']⟩, Pt.ints 2 lo' (ln + k * e) lc' (cpR s a t b i ++ (List.replicate k (cpK t b i)).flatten), Pt.row ⟨38, 2, some ⟨gi, 0, none⟩, 1, 1, [vs, .slice io e ic]⟩, IT])) (fun v16 _ => x - (RowKit.intOf v16).toNat)
                    case atStart => exact ⟨0, lo, lc, by omega, fun _ => rfl, rfl, by
                      show Sp _ _ _ _
                      rw [List.replicate_zero, List.flatten_nil, List.append_nil, Nat.zero_mul, Nat.add_zero]
                      exact H8.out⟩
                    case round =>
                      clear H8
                      obtain ⟨k, lo', lc', hk, hke, rfl, HM⟩ := hrel
                      obtain ⟨b4, o4, e4, hc4⟩ := (HGET.out wr _ 3 rfl HM.out).at (by omega)
                      have d4 := hc4 i hlt
                      rw [tmL_at (by rw [HNL.out]; exact hlt), HXV.out] at d4
                      subst e4
                      have it1 := HM.out.cell (i := 7) rfl 1 _ rfl
                      clear hc4
                      by_cases hkx : k < x
                      · have hkx' : (k : Int) < x := by omega
                        by_cases he0 : 0 < e
                        · have he1 : (0 : Int) < e := by omega
                          have y5 := HM.out.cell (i := 5) rfl 1 _ rfl
                          have LSX := Lib.hid (HG8.out wr _ 8 rfl HM.out)
                          have hke2 : (k + 1) * e ≤ x * e := Nat.mul_le_mul_right e (by omega)
                          rw [Nat.succ_mul] at hke2
                          have hb1 : (ln + k * e + e) * 8 ≤ 140737488351232 := by omega
                          obtain ⟨j0, hj0, hya, hyb, hyc⟩ := info_parts (P := Try.prog) (e := 2) (z := .int .i64 0) (size := 1) (bytes := 8) (by kernel_rfl)
                          clear hke2
                          go_wp2_with (at_builtin; refine Sp.wpList_loc (i := 6) HM.out rfl _ _ 28 (by rfl) 2 j0 Try.underlying28 hj0 hya hyb hyc rfl (by rfl) (by rfl) LSX.out hb1 ?_)
                          intro b9 d9 w9 h9
                          have q1 := h9.cell (i := 5) rfl 1 _ rfl
                          have q2 := h9.frozen (i := 5) rfl 1
                          have z2 : ln + k * e + e = ln + (k + 1) * e := by rw [Nat.succ_mul]; omega
                          have H10 : Hid (Sp Non w (w9.setCell ⟨gb, 1, none⟩ (.slice b9 (ln + k * e + e) d9)) [Pt.row ⟨38, 2, some ⟨g, 0, none⟩, 1, 1, [.slice sa sn sc, .slice aa an ac]⟩, Pt.row ⟨38, 2, some ⟨g + 1, 0, none⟩, 1, 1, [.slice ta tn tc, .slice ba bn bc]⟩, Pt.row ⟨38, 2, some ⟨g + 1 + 1, 0, none⟩, 1, 1, [.slice none 0 0, .slice none 0 0]⟩, TP, Pt.ints 3 so sl sd (T :: t.tail), Pt.row ⟨38, 2, some ⟨gb, 0, none⟩, 1, 1, [.slice so sl sd, .slice b9 (ln + (k + 1) * e) d9]⟩, Pt.ints 2 b9 (ln + (k + 1) * e) d9 (cpR s a t b i ++ (List.replicate (k + 1) (cpK t b i)).flatten), Pt.row ⟨38, 2, some ⟨gi, 0, none⟩, 1, 1, [vs, .slice io e ic]⟩, IT]) := by
                            show Sp _ _ _ _
                            rw [List.replicate_succ', List.flatten_append, List.flatten_singleton, ← List.append_assoc, ← z2]
                            have q := h9.put (i := 5) rfl 1 (.slice b9 (ln + k * e + e) d9)
                            simp only [← List.append_assoc] at q
                            exact q
                          clear h9 HM z2
                          go_wp2
                          go_roundw
                          case rel => exact ⟨k + 1, b9, d9, by omega, fun h => absurd h (by omega), by go_num, H10⟩
                          case measure => simp [RowKit.intOf] <;> omega
                        · have he1 : ¬ (0 : Int) < e := by omega
                          have hez : e = 0 := by omega
                          have hk0 := hke hez
                          have HJ : Hid (Sp Non w wr [Pt.row ⟨38, 2, some ⟨g, 0, none⟩, 1, 1, [.slice sa sn sc, .slice aa an ac]⟩, Pt.row ⟨38, 2, some ⟨g + 1, 0, none⟩, 1, 1, [.slice ta tn tc, .slice ba bn bc]⟩, Pt.row ⟨38, 2, some ⟨g + 1 + 1, 0, none⟩, 1, 1, [.slice none 0 0, .slice none 0 0]⟩, TP, Pt.ints 3 so sl sd (T :: t.tail), Pt.row ⟨38, 2, some ⟨gb, 0, none⟩, 1, 1, [.slice so sl sd, .slice lo' (cpR s a t b (i + 1)).length lc']⟩, Pt.ints 2 lo' (cpR s a t b (i + 1)).length lc' (cpR s a t b (i + 1))]) := by
                            show Sp _ _ _ _
                            have hck : cpK t b i = [] := List.eq_nil_of_length_eq_zero (by rw [HEV.out]; exact hez)
                            have q := HM.out.pick [0, 1, 2, 3, 4, 5, 6] (by decide)
                            have e9 : cpR s a t b (i + 1) = cpR s a t b i ++ (List.replicate k (cpK t b i)).flatten := by
                              rw [cpR, HXV.out, Int.toNat_natCast, hck]
                              simp
                            rw [e9, List.length_append, HLN.out, HLEN.out]
                            exact q
                          have hez2 : ¬ 0 < e := he0
                          clear HM
                          go_wp2
                          go_roundw
                          case rel => first | exact ⟨i + 1, lo', lc', by omega, by go_num, HJ⟩ | ((repeat apply Exists.intro); refine ⟨⟨i + 1, lo', lc', by omega, ?_, HJ⟩, rfl⟩; go_num)
                          case measure => simp [RowKit.intOf] <;> omega
                      · have hkx' : ¬ (k : Int) < x := by omega
                        obtain rfl : k = x := by omega
                        have HJ : Hid (Sp Non w wr [Pt.row ⟨38, 2, some ⟨g, 0, none⟩, 1, 1, [.slice sa sn sc, .slice aa an ac]⟩, Pt.row ⟨38, 2, some ⟨g + 1, 0, none⟩, 1, 1, [.slice ta tn tc, .slice ba bn bc]⟩, Pt.row ⟨38, 2, some ⟨g + 1 + 1, 0, none⟩, 1, 1, [.slice none 0 0, .slice none 0 0]⟩, TP, Pt.ints 3 so sl sd (T :: t.tail), Pt.row ⟨38, 2, some ⟨gb, 0, none⟩, 1, 1, [.slice so sl sd, .slice lo' (cpR s a t b (i + 1)).length lc']⟩, Pt.ints 2 lo' (cpR s a t b (i + 1)).length lc' (cpR s a t b (i + 1))]) := by
                          show Sp _ _ _ _
                          have q := HM.out.pick [0, 1, 2, 3, 4, 5, 6] (by decide)
                          have e9 : cpR s a t b (i + 1) = cpR s a t b i ++ (List.replicate k (cpK t b i)).flatten := by rw [cpR, HXV.out, Int.toNat_natCast]
                          rw [e9, List.length_append, HLN.out, HLEN.out]
                          exact q
                        clear HM
                        go_wp2
                        go_roundw
                        case rel => first | exact ⟨i + 1, lo', lc', by omega, by go_num, HJ⟩ | ((repeat apply Exists.intro); refine ⟨⟨i + 1, lo', lc', by omega, ?_, HJ⟩, rfl⟩; go_num)
                        case measure => simp [RowKit.intOf] <;> omega
                · have hge : ¬ ((i : Int) < N) := by omega
                  obtain rfl : i = N := by omega
                  have hsp := HO.out
                  obtain ⟨q2, q3⟩ := HRR.out
                  rw [← q2, ← q3] at hsp
                  obtain ⟨ln, HLN⟩ : ∃ z, Hid (A.length = z) := ⟨_, rfl⟩
                  rw [HLN.out] at hsp
                  have h7 := hsp.arrOf (i := 4) (j := 6) rfl (by decide) rfl
                  have H7_ := h7
                  try simp only [List.cons_append, List.nil_append, List.set_cons_zero, List.set_cons_succ, List.map_cons, List.map_nil, List.getD_cons_zero, List.getD_cons_succ, World.size_alloc] at H7_
                  have H7 := Lib.hid H7_
                  clear H7_
                  have HF : Hid (∀ u v, MadeE w S A 0 (.returned (.tuple #[.agg #[.slice so sl sd, .slice lo ln lc], .int .i64 0])) ((wr.setCell ⟨g + 1 + 1, 0, none⟩ u).setCell ⟨g + 1 + 1, 1, none⟩ v)) := fun u v => ((H7.out.put (i := 2) rfl 0 u).put (i := 2) rfl 1 v).madeE (i := 6) (B := ⟨so, sl, sd, lo, ln, lc, S, A⟩) rfl 0
                  have z0 := H7.out.cell (i := 2) rfl 0 _ rfl
                  have z1 := H7.out.cell (i := 2) rfl 1 _ rfl
                  have z2 := H7.out.frozen (i := 2) rfl 0
                  have z3 := H7.out.frozen (i := 2) rfl 1
                  have y0 := H7.out.cell (i := 5) rfl 0 _ rfl
                  have y1 := H7.out.cell (i := 5) rfl 1 _ rfl
                  clear hsp h7 H7 HO q2 q3
                  go_wp2
                  exact bodyPost_ret (v := .tuple #[.agg #[.slice so sl sd, .slice lo ln lc], .int .i64 0]) (by simp [results, Try.results60, go_sem, *]) rfl (HF.out _ _)
            · have r1 : E = 17 := by rw [HEE.out.1, HNEG.out, if_neg (by decide), if_neg (fun h => hm (HMT.out.1.1 h))]
              have r2 : S = [] := by rw [HEE.out.2.1, r1]; rfl
              have r3 : A = [] := by rw [HEE.out.2.2, r1]; rfl
              obtain ⟨me, HME⟩ : ∃ z, Hid (mayE (T :: t.tail) = z) := ⟨_, rfl⟩
              rw [HME.out] at CM0 hm
              have CM := Lib.hid CM0
              have q0 : (me != 0) = true := by simpa using hm
              subst r1 r2 r3
              have HF : Hid (∀ u v, MadeE w [] [] 17 (.returned (.tuple #[.agg #[.slice none 0 0, .slice none 0 0], .int .i64 17])) ((U4.setCell ⟨g + 1 + 1, 0, none⟩ u).setCell ⟨g + 1 + 1, 1, none⟩ v)) := fun u v => made_nil 17 ((H5.out.put (i := 2) rfl 0 u).put (i := 2) rfl 1 v).belowN
              have z0 := H5.out.cell (i := 2) rfl 0 _ rfl
              have z1 := H5.out.cell (i := 2) rfl 1 _ rfl
              have z2 := H5.out.frozen (i := 2) rfl 0
              have z3 := H5.out.frozen (i := 2) rfl 1
              clear CM0 hm H5
              go_wp2_with fail
              refine CM.out.mono ?_; rintro e w' ⟨rfl, hw'⟩
              have hw'' := hw'.symm
              subst hw''
              clear hw' CM
              go_wp2
              exact bodyPost_ret (v := .tuple #[.agg #[.slice none 0 0, .slice none 0 0], .int .i64 17]) (by simp [results, Try.results60, go_sem, *]) rfl (HF.out _ _)
      · rw [hneg] at CT0
        have r1 : E = 10 := by rw [HEE.out.1, hneg]; rfl
        have r2 : S = [] := by rw [HEE.out.2.1, r1]; rfl
        have r3 : A = [] := by rw [HEE.out.2.2, r1]; rfl
        have CT := Lib.hid CT0
        obtain ⟨tv, HTV⟩ : ∃ z, Hid (ttV a = z) := ⟨_, rfl⟩
        rw [HTV.out] at CT
        subst r1 r2 r3
        have z0 := H2.out.cell (i := 2) rfl 0 _ rfl
        have z1 := H2.out.cell (i := 2) rfl 1 _ rfl
        have z2 := H2.out.frozen (i := 2) rfl 0
        have z3 := H2.out.frozen (i := 2) rfl 1
        clear CT0 hneg
        go_wp2_with fail
        refine CT.out.mono ?_; rintro e w' ⟨rfl, hw'⟩
        have hw'' := hw'.symm
        subst hw''
        clear hw' CT
        go_wp2
        exact bodyPost_ret (v := .tuple #[.agg #[.slice none 0 0, .slice none 0 0], .int .i64 10]) (by simp [results, Try.results60, go_sem, *]) rfl (BAD.out _ HBW.out _ _ _)
end Go.Proofs.Ytoippfoeghjdoaa

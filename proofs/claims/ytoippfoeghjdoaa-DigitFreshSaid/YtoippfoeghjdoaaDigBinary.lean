/- Contract of digit.where. Contract of digit.base. Contract of digit.anti. Contract of digit.binary. -/
import Derived.Test.YtoippfoeghjdoaaDigSmall
import Derived.Test.YtoippfoeghjdoaaNumCalls
import Derived.Laws.MathBits
import Derived.WalkSmall
import Derived.Deep.RegionLaw
namespace Go.Proofs.Ytoippfoeghjdoaa
open Go.RowKit Go.Lib
set_option linter.unusedVariables false
set_option linter.unusedSimpArgs false
attribute [local go_sem] alloc_drewN setCell_drewN
/-- The places of some numbers, as many of each as it says; nothing, if there are more than 4096. -/
def whGo : Nat → List Int → List Int → Option (List Int)
  | _, l, [] => some l
  | i, l, n :: r => if 4096 - (l.length : Int) < n then none else whGo (i + 1) (l ++ List.replicate n.toNat (i : Int)) r
def whE (ns : List Int) : Int := if ns.any (fun k => decide (k < 0)) then 10 else match whGo 0 [] ns with | none => 17 | some _ => 0
def whA (ns : List Int) : List Int := if ns.any (fun k => decide (k < 0)) then [] else match whGo 0 [] ns with | none => [] | some l => l
def whS (ns : List Int) : List Int := if ns.any (fun k => decide (k < 0)) then [] else match whGo 0 [] ns with | none => [] | some l => [(l.length : Int)]
theorem whGo_step {i k : Nat} {l ns : List Int} (h : k < ns.length) : whGo i l (ns.drop k) = if 4096 - (l.length : Int) < ns.getD k 0 then none else whGo (i + 1) (l ++ List.replicate (ns.getD k 0).toNat (i : Int)) (ns.drop (k + 1)) := by
  rw [List.drop_eq_getElem_cons h]
  simp only [List.getD, List.getElem?_eq_getElem h, Option.getD_some]
  rfl
theorem ls_lit1 (w : World) (T : TypeId) {x : Int} (hx : -9223372036854775808 ≤ x ∧ x ≤ 9223372036854775807) : Ls (w.alloc (.cells #[.int .i64 x] T)) (some ⟨w.heap.size, 0, none⟩) 1 1 [x] :=
  ⟨rfl, Nat.le_refl _, by omega, by decide, fun _ => ⟨w.heap.size, 0, rfl, by simp, fun i hi => by
    obtain rfl : i = 0 := by omega
    simp [go_sem]⟩, rng_one hx⟩
set_option maxRecDepth 100000 in
set_option maxHeartbeats 1600000 in
theorem dwhere_any {w : World} {ao : Option Addr} {n c : Nat} {ns : List Int} (h : Ls w ao n c ns) :
    Calls Try.prog 44 #[.slice ao n c] w (MadeE w (whS ns) (whA ns) (whE ns)) := by
  obtain ⟨W, HW⟩ : ∃ z, Hid (w.alloc (.cells #[.slice none 0 0, .slice none 0 0] 38) = z) := ⟨_, rfl⟩
  have h1 := (Sp.start Non w).alloc 38 2 1 #[.slice none 0 0, .slice none 0 0] rfl (by decide)
  rw [HW.out] at h1
  obtain ⟨b, HB⟩ : ∃ z, Hid (w.heap.size = z) := ⟨_, rfl⟩
  rw [HB.out] at h1
  have H1_ := h1
  try simp only [List.cons_append, List.nil_append, List.set_cons_zero, List.set_cons_succ, List.map_cons, List.map_nil, List.getD_cons_zero, List.getD_cons_succ, World.size_alloc] at H1_
  have H1 := Lib.hid H1_
  clear H1_
  have CC := Lib.hid (containsneg_w (h.below H1.out.belowN (Nat.le_refl _)))
  obtain ⟨E, HE⟩ : ∃ z, Hid (whE ns = z) := ⟨_, rfl⟩
  obtain ⟨S, HS⟩ : ∃ z, Hid (whS ns = z) := ⟨_, rfl⟩
  obtain ⟨A, HA⟩ : ∃ z, Hid (whA ns = z) := ⟨_, rfl⟩
  rw [HE.out, HS.out, HA.out]
  have HL := Lib.hid h
  have hcap := h.cap
  have hbig := h.big
  have HLEN := Lib.hid h.len
  clear h h1
  cases hn : ns.any (fun k => decide (k < 0))
  · rw [hn] at CC
    have eE : E = match whGo 0 [] ns with | none => 17 | some _ => 0 := by rw [← HE.out, whE, hn]; rfl
    have eS : S = match whGo 0 [] ns with | none => [] | some l => [(l.length : Int)] := by rw [← HS.out, whS, hn]; rfl
    have eA : A = match whGo 0 [] ns with | none => [] | some l => l := by rw [← HA.out, whA, hn]; rfl
    have hpos : ∀ i, 0 ≤ ns.getD i 0 := fun i => by
      rcases Int.lt_or_le (ns.getD i 0) 0 with h3 | h3
      · by_cases hi : i < ns.length
        · exact absurd (any_neg_iff.2 ⟨i, hi, h3⟩) (by rw [hn]; simp)
        · simp [List.getD, List.getElem?_eq_none (show ns.length ≤ i by omega)]
      · exact h3
    have HEE := Lib.hid (And.intro eE (And.intro eS eA))
    have HPOS := Lib.hid hpos
    clear HE HS HA eE eS eA hpos hn
    go_enter Try.func44, Try.ntmps44
    go_wp2_with fail
    rw [HW.out, HB.out]
    refine CC.out.mono ?_; rintro e w1 ⟨rfl, hw1⟩
    have hw1' := hw1.symm
    subst hw1'
    have H2 : Hid (Sp Non w W [Pt.row ⟨38, 2, some ⟨b, 0, none⟩, 1, 1, [.slice none 0 0, .slice none 0 0]⟩, Pt.ints 2 none 0 0 []]) := H1.out.intsNew (E := 2) (zs := []) (World.ownsRow_nil _ _ _ _) (Below.refl _ _) (by omega) (fun i => by simp [List.getD])
    clear CC H1 hw1
    obtain ⟨i0, hi0, hz0, hz1, hz2⟩ := info_parts (P := Try.prog) (e := 2) (z := .int .i64 0) (size := 1) (bytes := 8) (by kernel_rfl)
    have HI0 := Lib.hid (And.intro hi0 (And.intro hz0 (And.intro hz1 hz2)))
    clear hi0 hz0 hz1 hz2
    go_wp2_with fail
    go_loopw [4, 12] (fun v4 v12 wr => ∃ (k : Nat) (l : List Int) (lo : Option Addr) (ln lc : Nat), k ≤ n ∧ v12 = .int .i64 k ∧ v4 = .slice lo ln lc ∧ Hid (Sp Non w wr [Pt.row ⟨38, 2, some ⟨b, 0, none⟩, 1, 1, [.slice none 0 0, .slice none 0 0]⟩, Pt.ints 2 lo ln lc l]) ∧ Hid (whGo 0 [] ns = whGo k l (ns.drop k) ∧ l.length ≤ 4096)) (fun _ v12 _ => n - (RowKit.intOf v12).toNat)
    case atStart => exact ⟨0, [], none, 0, 0, by omega, rfl, rfl, H2, rfl, by simp⟩
    case round =>
      clear H2
      obtain ⟨k, l, lo, ln, lc, hk, rfl, rfl, HO, HG⟩ := hrel
      have hll : l.length = ln := (HO.out.ls (i := 1) rfl).len
      have hl4 : ln ≤ 4096 := by rw [← hll]; exact HG.out.2
      have HLL := Lib.hid hll
      clear hll
      by_cases hlt : k < n
      · have hlt' : (k : Int) < n := by omega
        obtain ⟨b1, o1, e1, hc1⟩ := HL.out.at (by omega)
        subst e1
        have d1 := (HO.out.belowN.cell (p := ⟨b1, o1 + k, none⟩) (by have h := HL.out.mem (by omega); obtain ⟨b', o', e, hlt, -⟩ := h; cases e; exact hlt)).trans (hc1 k hlt)
        have hst := whGo_step (i := k) (l := l) (k := k) (ns := ns) (by rw [HLEN.out]; exact hlt)
        obtain ⟨x, HX⟩ : ∃ x : Nat, Hid (ns.getD k 0 = x) := ⟨(ns.getD k 0).toNat, (Int.toNat_of_nonneg (HPOS.out k)).symm⟩
        rw [HX.out] at d1 hst
        have HST := Lib.hid hst
        clear hc1 hst
        have z1 : (4096 : Int) - ln = ((4096 - ln : Nat) : Int) := by omega
        by_cases hx : 4096 - ln < x
        · have hx' : (4096 : Int) - ln < x := by omega
          have hno : whGo 0 [] ns = none := by rw [HG.out.1, HST.out, if_pos (by rw [HLL.out]; exact hx')]
          have r1 : E = 17 := by rw [HEE.out.1, hno]
          have r2 : S = [] := by rw [HEE.out.2.1, hno]
          have r3 : A = [] := by rw [HEE.out.2.2, hno]
          subst r1 r2 r3
          have x0 := HO.out.cell (i := 0) rfl 0 _ rfl
          have x1 := HO.out.cell (i := 0) rfl 1 _ rfl
          have f0 := HO.out.frozen (i := 0) rfl 0
          have f1 := HO.out.frozen (i := 0) rfl 1
          have HF : Hid (∀ u v, MadeE w [] [] 17 (.returned (.tuple #[.agg #[.slice none 0 0, .slice none 0 0], .int .i64 17])) ((wr.setCell ⟨b, 0, none⟩ u).setCell ⟨b, 1, none⟩ v)) := fun u v => made_nil 17 ((HO.out.put (i := 0) rfl 0 u).put (i := 0) rfl 1 v).belowN
          clear hno z1 hx
          go_wp2
          exact bodyPost_ret (v := .tuple #[.agg #[.slice none 0 0, .slice none 0 0], .int .i64 17]) (by simp [results, Try.results44, go_sem, *]) rfl (HF.out _ _)
        · have hx' : ¬ ((4096 : Int) - ln < x) := by omega
          have HT : Hid (whGo 0 [] ns = whGo (k + 1) (l ++ List.replicate x (k : Int)) (ns.drop (k + 1))) := by
            show _ = _
            rw [HG.out.1, HST.out, if_neg (by rw [HLL.out]; exact hx'), Int.toNat_natCast]
          clear z1
          go_wp2_with fail
          go_loopw [4, 24] (fun v4 v24 wx => ∃ (m : Nat) (lo' : Option Addr) (lc' : Nat), m ≤ x ∧ v24 = .int .i64 m ∧ v4 = .slice lo' (ln + m) lc' ∧ Hid (Sp Non w wx [Pt.row ⟨38, 2, some ⟨b, 0, none⟩, 1, 1, [.slice none 0 0, .slice none 0 0]⟩, Pt.ints 2 lo' (ln + m) lc' (l ++ List.replicate m (k : Int))])) (fun _ v24 _ => x - (RowKit.intOf v24).toNat)
          case atStart => exact ⟨0, lo, lc, by omega, rfl, rfl, by rw [List.replicate_zero, List.append_nil]; exact HO⟩
          case round =>
            obtain ⟨m, lo', lc', hm, rfl, rfl, HM⟩ := hrel
            by_cases hmx : m < x
            · have hmx' : (m : Int) < x := by omega
              have HV := Lib.hid (HM.out.via (abal wr (.cells #[.int .i64 k] 2)))
              have hb1 : (ln + m + 1) * 8 ≤ 140737488351232 := by omega
              go_wp2_with (at_builtin; refine Sp.wpList_loc (i := 1) HV.out rfl _ _ 28 rfl 2 i0 Try.underlying28 HI0.out.1 HI0.out.2.1 HI0.out.2.2.1 HI0.out.2.2.2 rfl rfl rfl (ls_lit1 wr _ (by omega)) hb1 ?_)
              intro b9 d9 w9 h9
              have h10 : Sp Non w w9 [Pt.row ⟨38, 2, some ⟨b, 0, none⟩, 1, 1, [.slice none 0 0, .slice none 0 0]⟩, Pt.ints 2 b9 (ln + (m + 1)) d9 (l ++ List.replicate (m + 1) (k : Int))] := by
                rw [List.replicate_succ']
                exact h9
              have H10 := Lib.hid h10
              clear h9 h10 HV
              have z2 : ln + m + 1 = ln + (m + 1) := by omega
              go_wp2
              go_roundw
              case rel => exact ⟨m + 1, b9, d9, by omega, by go_num, rfl, H10⟩
              case measure => simp [RowKit.intOf]; omega
            · have hge : ¬ ((m : Int) < x) := by omega
              obtain rfl : m = x := by omega
              have HJ : Hid (whGo 0 [] ns = whGo (k + 1) (l ++ List.replicate m (k : Int)) (ns.drop (k + 1)) ∧ (l ++ List.replicate m (k : Int)).length ≤ 4096) := ⟨HT.out, by rw [List.length_append, List.length_replicate, HLL.out]; omega⟩
              go_wp2
              go_roundw
              case rel => exact ⟨k + 1, _, lo', ln + m, lc', by omega, by go_num, rfl, HM, HJ⟩
              case measure => simp [RowKit.intOf]; omega
      · have hge : ¬ ((k : Int) < n) := by omega
        obtain rfl : k = n := by omega
        have hyes : whGo 0 [] ns = some l := by rw [HG.out.1, List.drop_of_length_le (by rw [HLEN.out]; exact Nat.le_refl _)]; rfl
        have r1 : E = 0 := by rw [HEE.out.1, hyes]
        have r2 : S = [(ln : Int)] := by rw [HEE.out.2.1, hyes, ← HLL.out]
        have r3 : A = l := by rw [HEE.out.2.2, hyes]
        subst r1 r2 r3
        have h3 := HO.out.alloc 3 1 1 #[.int .i64 ln] rfl (by decide)
        have h4 := h3.toInts (i := 2) (zs := [(ln : Int)]) rfl (by omega) (rng_one (by omega))
        have h5 := h4.arrOf (i := 2) (j := 1) rfl (by decide) rfl
        have H5_ := h5
        try simp only [List.cons_append, List.nil_append, List.set_cons_zero, List.set_cons_succ, List.map_cons, List.map_nil, List.getD_cons_zero, List.getD_cons_succ, World.size_alloc] at H5_
        have H5 := Lib.hid H5_
        clear H5_
        have x0 := H5.out.cell (i := 0) rfl 0 _ rfl
        have x1 := H5.out.cell (i := 0) rfl 1 _ rfl
        have f0 := H5.out.frozen (i := 0) rfl 0
        have f1 := H5.out.frozen (i := 0) rfl 1
        have HF : Hid (∀ u v, MadeE w [(ln : Int)] A 0 (.returned (.tuple #[.agg #[.slice (some ⟨wr.heap.size, 0, none⟩) 1 1, .slice lo ln lc], .int .i64 0])) (((wr.alloc (.cells #[.int .i64 ln] 3)).setCell ⟨b, 0, none⟩ u).setCell ⟨b, 1, none⟩ v)) := fun u v => ((H5.out.put (i := 0) rfl 0 u).put (i := 0) rfl 1 v).madeE (i := 1) (B := ⟨some ⟨wr.heap.size, 0, none⟩, 1, 1, lo, ln, lc, [(ln : Int)], A⟩) rfl 0
        clear h3 h4 h5 H5 hyes
        go_wp2
        exact bodyPost_ret (v := .tuple #[.agg #[.slice (some ⟨wr.heap.size, 0, none⟩) 1 1, .slice lo ln lc], .int .i64 0]) (by simp [results, Try.results44, go_sem, *]) rfl (HF.out _ _)
  · rw [hn] at CC
    have r1 : E = 10 := by rw [← HE.out, whE, hn]; rfl
    have r2 : S = [] := by rw [← HS.out, whS, hn]; rfl
    have r3 : A = [] := by rw [← HA.out, whA, hn]; rfl
    subst r1 r2 r3
    have x0 := H1.out.cell (i := 0) rfl 0 _ rfl
    have x1 := H1.out.cell (i := 0) rfl 1 _ rfl
    have f0 := H1.out.frozen (i := 0) rfl 0
    have f1 := H1.out.frozen (i := 0) rfl 1
    have HF : Hid (∀ u v, MadeE w [] [] 10 (.returned (.tuple #[.agg #[.slice none 0 0, .slice none 0 0], .int .i64 10])) ((W.setCell ⟨b, 0, none⟩ u).setCell ⟨b, 1, none⟩ v)) := fun u v => made_nil 10 ((H1.out.put (i := 0) rfl 0 u).put (i := 0) rfl 1 v).belowN
    clear HE HS HA hn
    go_enter Try.func44, Try.ntmps44
    go_wp2_with fail
    rw [HW.out, HB.out]
    refine CC.out.mono ?_; rintro e w1 ⟨rfl, hw1⟩
    have hw1' := hw1.symm
    subst hw1'
    go_wp2
    exact bodyPost_ret (v := .tuple #[.agg #[.slice none 0 0, .slice none 0 0], .int .i64 10]) (by simp [results, Try.results44, go_sem, *]) rfl (HF.out _ _)
end Go.Proofs.Ytoippfoeghjdoaa
namespace Go.Proofs.Ytoippfoeghjdoaa
open Go.RowKit Go.Lib
set_option linter.unusedVariables false
set_option linter.unusedSimpArgs false
attribute [local go_sem] alloc_drewN setCell_drewN
/-- The i-th number of a list; a scalar's one. -/
def pkV (s a : List Int) (i : Nat) : Int := if s.length = 0 then a.getD 0 0 else a.getD i 0
def bsGo (s a t b : List Int) : Nat → Option Int
  | 0 => some 0
  | k + 1 => match bsGo s a t b k with
    | none => none
    | some r => if fit (r * pkV s a k) then if fit (r * pkV s a k + pkV t b k) then some (r * pkV s a k + pkV t b k) else none else none
def bsN (a t b : List Int) : Nat := if t.length = 0 then a.length else b.length
def bsE (s a t b : List Int) : Int := if s.length = 1 ∧ t.length = 1 ∧ a.length ≠ b.length then 11 else match bsGo s a t b (bsN a t b) with | none => 14 | some _ => 0
def bsA (s a t b : List Int) : List Int := if s.length = 1 ∧ t.length = 1 ∧ a.length ≠ b.length then [] else match bsGo s a t b (bsN a t b) with | none => [] | some r => [r]
theorem bsGo_none {s a t b : List Int} {j : Nat} (h : bsGo s a t b j = none) (d : Nat) : bsGo s a t b (j + d) = none := by
  induction d with
  | zero => exact h
  | succ d ih => rw [← Nat.add_assoc, bsGo, ih]
set_option maxHeartbeats 800000 in
theorem pick_any {w : World} {A : Ar} (hA : A.Is w) (i : Nat) (hi : if A.sn = 0 then 0 < A.an else i < A.an) :
    Calls Try.prog 68 #[A.v, .int .i64 i] w (RetB w (.int .i64 (pkV A.s A.a i))) := by
  obtain ⟨sa, sn, sc, aa, an, ac, s, a⟩ := A
  simp only [Ar.v]
  simp only at hi
  have hsl : s.length = sn := hA.shp.len
  have hat := hA.ats
  simp only at hat
  by_cases h0 : sn = 0
  · rw [if_pos h0] at hi
    obtain ⟨b, o, rfl, hc⟩ := hat.at hi
    have c0 := hc 0 hi
    rw [Nat.add_zero] at c0
    have hi' : (0 : Int) < an := by omega
    have e : pkV s a i = a.getD 0 0 := by unfold pkV; rw [if_pos (by omega)]
    rw [e]
    subst h0
    obtain ⟨x, HX⟩ : ∃ z, Hid (a.getD 0 0 = z) := ⟨_, rfl⟩
    rw [HX.out] at c0 ⊢
    have hlt := World.block_lt_of_cell? w _ c0
    simp only at hlt
    have hne : ¬ w.heap.size = b := by omega
    clear hA hat hsl e hc
    go_enter Try.func68, Try.ntmps68
    go_wp2
    go_ret
    exact RetB.mk rfl (abal _ _)
  · rw [if_neg h0] at hi
    obtain ⟨b, o, rfl, hc⟩ := hat.at (by omega)
    have c0 := hc i hi
    have hi' : (i : Int) < an := by omega
    have q0 : ((sn : Int) == 0) = false := by simp; omega
    have q1 : (sn == 0) = false := by simpa using h0
    have e : pkV s a i = a.getD i 0 := by unfold pkV; rw [if_neg (by omega)]
    rw [e]
    obtain ⟨x, HX⟩ : ∃ z, Hid (a.getD i 0 = z) := ⟨_, rfl⟩
    rw [HX.out] at c0 ⊢
    have hlt := World.block_lt_of_cell? w _ c0
    simp only at hlt
    have hne : ¬ w.heap.size = b := by omega
    clear hA hat hsl e hc
    go_enter Try.func68, Try.ntmps68
    go_wp2
    go_ret
    exact RetB.mk rfl (abal _ _)
theorem pk_rng {w : World} {A : Ar} (hA : A.Is w) (i : Nat) : -9223372036854775808 ≤ pkV A.s A.a i ∧ pkV A.s A.a i ≤ 9223372036854775807 := by
  unfold pkV
  split
  · exact hA.ats.rng 0
  · exact hA.ats.rng i
set_option maxRecDepth 100000 in
set_option maxHeartbeats 1600000 in
theorem base_0 {w : World} {X Y : Ar} (hX : X.Is w) (hY : Y.Is w) (h1 : X.sn = 0) (h2 : Y.sn = 0)
    (h3 : X.an = 1) (h4 : Y.an = 1)
    : Calls Try.prog 45 #[X.v, Y.v] w (MadeE w [] (bsA X.s X.a Y.s Y.a) (bsE X.s X.a Y.s Y.a)) := by
  obtain ⟨sa, sn, sc, aa, an, ac, s, a⟩ := X
  obtain ⟨ta, tn, tc, ba, bn, bc, t, b⟩ := Y
  simp only [Ar.v]
  simp only at h1 h2 h3 h4
  have hsl : s.length = sn := hX.shp.len
  have htl : t.length = tn := hY.shp.len
  have hal : a.length = an := hX.ats.len
  have hbl : b.length = bn := hY.ats.len
  rw [h1] at hsl
  rw [h2] at htl
  subst h1 h2
  subst h3 h4
  obtain ⟨W, HW⟩ : ∃ z, Hid (((w.alloc (.cells #[.slice sa 0 sc, .slice aa 1 ac] 38)).alloc (.cells #[.slice ta 0 tc, .slice ba 1 bc] 38)).alloc (.cells #[.slice none 0 0, .slice none 0 0] 38) = z) := ⟨_, rfl⟩
  have H0 := (((Sp.start Non w).alloc 38 2 1 #[.slice sa 0 sc, .slice aa 1 ac] rfl (by decide)).alloc 38 2 1 #[.slice ta 0 tc, .slice ba 1 bc] rfl (by decide)).alloc 38 2 1 #[.slice none 0 0, .slice none 0 0] rfl (by decide)
  rw [HW.out] at H0
  have H1_ := H0
  try simp only [List.cons_append, List.nil_append, List.set_cons_zero, List.set_cons_succ, List.map_cons, List.map_nil, List.getD_cons_zero, List.getD_cons_succ, World.size_alloc] at H1_
  have H1 := Lib.hid H1_
  clear H1_
  obtain ⟨b2, HB2⟩ : ∃ z, Hid (w.heap.size = z) := ⟨_, rfl⟩
  rw [HB2.out] at H1
  have HX := Lib.hid hX
  have HY := Lib.hid hY
  have hno : ¬ (s.length = 1 ∧ t.length = 1 ∧ a.length ≠ b.length) := by omega
  have hN : bsN a t b = 1 := by unfold bsN; split <;> omega
  have eE : bsE s a t b = match bsGo s a t b 1 with | none => 14 | some _ => 0 := by unfold bsE; rw [if_neg hno, hN]
  have eA : bsA s a t b = match bsGo s a t b 1 with | none => [] | some r => [r] := by unfold bsA; rw [if_neg hno, hN]
  obtain ⟨E, HE⟩ : ∃ z, Hid (bsE s a t b = z) := ⟨_, rfl⟩
  obtain ⟨A, HA⟩ : ∃ z, Hid (bsA s a t b = z) := ⟨_, rfl⟩
  rw [HE.out] at eE ⊢
  rw [HA.out] at eA ⊢
  have HEE := Lib.hid (And.intro eE eA)
  have x0 := H1.out.cell (i := 0) rfl 0 _ rfl
  have x1 := H1.out.cell (i := 0) rfl 1 _ rfl
  have y0 := H1.out.cell (i := 1) rfl 0 _ rfl
  have y1 := H1.out.cell (i := 1) rfl 1 _ rfl
  clear hX hY H0 hsl htl hal hbl hno hN eE eA HE HA
  go_enter Try.func45, Try.ntmps45
  go_upto_region 1 with fail
  rw [HW.out, HB2.out]
  go_wp2_with fail
  clear x0 x1 y0 y1
  go_loopw [8, 43] (fun v8 v43 wr => ∃ (k : Nat) (r : Int), k ≤ 1 ∧ v43 = .int .i64 k ∧ v8 = .int .i64 r ∧ Hid (Sp Non w wr [Pt.row ⟨38, 2, some ⟨b2, 0, none⟩, 1, 1, [.slice sa 0 sc, .slice aa 1 ac]⟩, Pt.row ⟨38, 2, some ⟨b2 + 1, 0, none⟩, 1, 1, [.slice ta 0 tc, .slice ba 1 bc]⟩, Pt.row ⟨38, 2, some ⟨b2 + 1 + 1, 0, none⟩, 1, 1, [.slice none 0 0, .slice none 0 0]⟩]) ∧ Hid (bsGo s a t b k = some r ∧ (-9223372036854775808 ≤ r ∧ r ≤ 9223372036854775807))) (fun _ v43 _ => 1 - (RowKit.intOf v43).toNat)
  case atStart => exact ⟨0, 0, by omega, rfl, rfl, H1, rfl, by omega⟩
  case round =>
    clear H1
    obtain ⟨k, r, hk, rfl, rfl, HO, HG⟩ := hrel
    by_cases hlt : k < 1
    · have hlt' : (k : Int) < 1 := by omega
      have CX0 := pick_any (HX.out.below HO.out.belowN (Nat.le_refl _)) k (by first | (simp; done) | (simp; omega))
      have hpx := pk_rng HX.out k
      have hpy := pk_rng HY.out k
      simp only [Ar.v] at CX0
      simp only at hpx hpy
      have hst : bsGo s a t b (k + 1) = if fit (r * pkV s a k) then if fit (r * pkV s a k + pkV t b k) then some (r * pkV s a k + pkV t b k) else none else none := by rw [bsGo, HG.out.1]
      obtain ⟨px, HPX⟩ : ∃ z, Hid (pkV s a k = z) := ⟨_, rfl⟩
      obtain ⟨py, HPY⟩ : ∃ z, Hid (pkV t b k = z) := ⟨_, rfl⟩
      rw [HPX.out] at CX0 hpx hst
      rw [HPY.out] at hpy hst
      have HST := Lib.hid hst
      have CX := Lib.hid CX0
      have HPR := Lib.hid (And.intro hpx hpy)
      have CM := Lib.hid (fun w => mul_any r px w HG.out.2 hpx)
      have x0 := HO.out.cell (i := 0) rfl 0 _ rfl
      have x1 := HO.out.cell (i := 0) rfl 1 _ rfl
      clear CX0 hpx hpy hst
      go_wp2_with fail
      refine CX.out.mono ?_; rintro e w3 ⟨rfl, hb3⟩
      have H3_ := HO.out.via hb3
      try simp only [List.cons_append, List.nil_append, List.set_cons_zero, List.set_cons_succ, List.map_cons, List.map_nil, List.getD_cons_zero, List.getD_cons_succ, World.size_alloc] at H3_
      have H3 := Lib.hid H3_
      clear H3_
      clear hb3 CX x0 x1
      go_wp2_with fail
      refine (CM.out _).mono ?_; rintro e w4 ⟨rfl, n4, hw4⟩
      have H4_ := H3.out.via (show Below _ _ w4 from by rw [hw4]; exact adrew _ _)
      try simp only [List.cons_append, List.nil_append, List.set_cons_zero, List.set_cons_succ, List.map_cons, List.map_nil, List.getD_cons_zero, List.getD_cons_succ, World.size_alloc] at H4_
      have H4 := Lib.hid H4_
      clear H4_
      clear hw4 CM H3
      have HNO : Hid (bsGo s a t b (k + 1) = none → E = 14 ∧ A = []) := fun h => by
        have h2 := bsGo_none h (1 - (k + 1))
        rw [show k + 1 + (1 - (k + 1)) = 1 by omega] at h2
        exact ⟨by rw [HEE.out.1, h2], by rw [HEE.out.2, h2]⟩
      cases hfit : fit (r * px)
      · obtain ⟨r1, r2⟩ := HNO.out (by rw [HST.out, hfit]; rfl)
        subst r1 r2
        have x2 := H4.out.cell (i := 2) rfl 0 _ rfl
        have x3 := H4.out.cell (i := 2) rfl 1 _ rfl
        have f2 := H4.out.frozen (i := 2) rfl 0
        have f3 := H4.out.frozen (i := 2) rfl 1
        have HF : Hid (∀ u v, MadeE w [] [] 14 (.returned (.tuple #[.agg #[.slice none 0 0, .slice none 0 0], .int .i64 14])) ((w4.setCell ⟨b2 + 1 + 1, 0, none⟩ u).setCell ⟨b2 + 1 + 1, 1, none⟩ v)) := fun u v => made_nil 14 ((H4.out.put (i := 2) rfl 0 u).put (i := 2) rfl 1 v).belowN
        clear hfit
        go_wp2
        exact bodyPost_ret (v := .tuple #[.agg #[.slice none 0 0, .slice none 0 0], .int .i64 14]) (by simp [results, Try.results45, go_sem, *]) rfl (HF.out _ _)
      · rw [val_of hfit]
        have hpr := (fit_iff _).1 hfit
        have hst := HST.out
        rw [hfit, if_pos rfl] at hst
        obtain ⟨p, HP⟩ : ∃ z, Hid (r * px = z) := ⟨_, rfl⟩
        rw [HP.out] at hpr hst ⊢
        have CY0 := pick_any (HY.out.below H4.out.belowN (Nat.le_refl _)) k (by first | (simp; done) | (simp; omega))
        simp only [Ar.v] at CY0
        rw [HPY.out] at CY0
        have CY := Lib.hid CY0
        have CAD := Lib.hid (fun w => add_any p py w hpr HPR.out.2)
        have HST2 := Lib.hid hst
        have y0 := H4.out.cell (i := 1) rfl 0 _ rfl
        have y1 := H4.out.cell (i := 1) rfl 1 _ rfl
        clear hst CY0 HST hpr hfit
        go_wp2_with fail
        refine CY.out.mono ?_; rintro e w5 ⟨rfl, hb5⟩
        have H5_ := H4.out.via hb5
        try simp only [List.cons_append, List.nil_append, List.set_cons_zero, List.set_cons_succ, List.map_cons, List.map_nil, List.getD_cons_zero, List.getD_cons_succ, World.size_alloc] at H5_
        have H5 := Lib.hid H5_
        clear H5_
        clear hb5 CY y0 y1 H4
        go_wp2_with fail
        refine (CAD.out _).mono ?_; rintro e w6 ⟨rfl, n6, hw6⟩
        have H6_ := H5.out.via (show Below _ _ w6 from by rw [hw6]; exact adrew _ _)
        try simp only [List.cons_append, List.nil_append, List.set_cons_zero, List.set_cons_succ, List.map_cons, List.map_nil, List.getD_cons_zero, List.getD_cons_succ, World.size_alloc] at H6_
        have H6 := Lib.hid H6_
        clear H6_
        clear hw6 CAD H5
        cases hfit : fit (p + py)
        · obtain ⟨r1, r2⟩ := HNO.out (by rw [HST2.out, hfit]; rfl)
          subst r1 r2
          have x2 := H6.out.cell (i := 2) rfl 0 _ rfl
          have x3 := H6.out.cell (i := 2) rfl 1 _ rfl
          have f2 := H6.out.frozen (i := 2) rfl 0
          have f3 := H6.out.frozen (i := 2) rfl 1
          have HF : Hid (∀ u v, MadeE w [] [] 14 (.returned (.tuple #[.agg #[.slice none 0 0, .slice none 0 0], .int .i64 14])) ((w6.setCell ⟨b2 + 1 + 1, 0, none⟩ u).setCell ⟨b2 + 1 + 1, 1, none⟩ v)) := fun u v => made_nil 14 ((H6.out.put (i := 2) rfl 0 u).put (i := 2) rfl 1 v).belowN
          clear hfit
          go_wp2
          exact bodyPost_ret (v := .tuple #[.agg #[.slice none 0 0, .slice none 0 0], .int .i64 14]) (by simp [results, Try.results45, go_sem, *]) rfl (HF.out _ _)
        · rw [val_of hfit]
          have hpr := (fit_iff _).1 hfit
          have hst := HST2.out
          rw [hfit, if_pos rfl] at hst
          obtain ⟨q, HQ⟩ : ∃ z, Hid (p + py = z) := ⟨_, rfl⟩
          rw [HQ.out] at hpr hst ⊢
          have HG2 := Lib.hid (And.intro hst hpr)
          clear hst hpr hfit HST2
          go_wp2
          go_roundw
          case rel => exact ⟨k + 1, q, by omega, by go_num, rfl, H6, HG2⟩
          case measure => simp [RowKit.intOf] <;> omega
    · have hge : ¬ ((k : Int) < 1) := by omega
      obtain rfl : k = 1 := by omega
      have r1 : E = 0 := by rw [HEE.out.1, HG.out.1]
      have r2 : A = [r] := by rw [HEE.out.2, HG.out.1]
      subst r1 r2
      have CS := Lib.hid (scalar_any r wr HG.out.2)
      go_wp2_with fail
      refine CS.out.mono ?_; rintro e w7 ⟨⟨ma, mn, mc, na, nn, nc, ms, ns⟩, rfl, hI, hs, ha, hO, hb⟩
      simp only at hs ha
      subst hs ha
      simp only [Ar.v]
      have H7_ := HO.out.arrNew hI hO hb
      try simp only [List.cons_append, List.nil_append, List.set_cons_zero, List.set_cons_succ, List.map_cons, List.map_nil, List.getD_cons_zero, List.getD_cons_succ, World.size_alloc] at H7_
      have H7 := Lib.hid H7_
      clear H7_
      have x2 := H7.out.cell (i := 2) rfl 0 _ rfl
      have x3 := H7.out.cell (i := 2) rfl 1 _ rfl
      have f2 := H7.out.frozen (i := 2) rfl 0
      have f3 := H7.out.frozen (i := 2) rfl 1
      have HF : Hid (∀ u v, MadeE w [] [r] 0 (.returned (.tuple #[.agg #[.slice ma mn mc, .slice na nn nc], .int .i64 0])) ((w7.setCell ⟨b2 + 1 + 1, 0, none⟩ u).setCell ⟨b2 + 1 + 1, 1, none⟩ v)) := fun u v => ((H7.out.put (i := 2) rfl 0 u).put (i := 2) rfl 1 v).madeE (i := 3) (B := ⟨ma, mn, mc, na, nn, nc, [], [r]⟩) rfl 0
      clear hI hO hb CS
      go_wp2
      exact bodyPost_ret (v := .tuple #[.agg #[.slice ma mn mc, .slice na nn nc], .int .i64 0]) (by simp [results, Try.results45, go_sem, *]) rfl (HF.out _ _)
set_option maxRecDepth 100000 in
set_option maxHeartbeats 1600000 in
theorem base_1 {w : World} {X Y : Ar} (hX : X.Is w) (hY : Y.Is w) (h1 : X.sn = 0) (h2 : Y.sn = 1)
    (h3 : X.an = 1) (h4 : Y.an ≤ 4096)
    : Calls Try.prog 45 #[X.v, Y.v] w (MadeE w [] (bsA X.s X.a Y.s Y.a) (bsE X.s X.a Y.s Y.a)) := by
  obtain ⟨sa, sn, sc, aa, an, ac, s, a⟩ := X
  obtain ⟨ta, tn, tc, ba, bn, bc, t, b⟩ := Y
  simp only [Ar.v]
  simp only at h1 h2 h3 h4
  have hsl : s.length = sn := hX.shp.len
  have htl : t.length = tn := hY.shp.len
  have hal : a.length = an := hX.ats.len
  have hbl : b.length = bn := hY.ats.len
  rw [h1] at hsl
  rw [h2] at htl
  subst h1 h2
  subst h3
  obtain ⟨W, HW⟩ : ∃ z, Hid (((w.alloc (.cells #[.slice sa 0 sc, .slice aa 1 ac] 38)).alloc (.cells #[.slice ta 1 tc, .slice ba bn bc] 38)).alloc (.cells #[.slice none 0 0, .slice none 0 0] 38) = z) := ⟨_, rfl⟩
  have H0 := (((Sp.start Non w).alloc 38 2 1 #[.slice sa 0 sc, .slice aa 1 ac] rfl (by decide)).alloc 38 2 1 #[.slice ta 1 tc, .slice ba bn bc] rfl (by decide)).alloc 38 2 1 #[.slice none 0 0, .slice none 0 0] rfl (by decide)
  rw [HW.out] at H0
  have H1_ := H0
  try simp only [List.cons_append, List.nil_append, List.set_cons_zero, List.set_cons_succ, List.map_cons, List.map_nil, List.getD_cons_zero, List.getD_cons_succ, World.size_alloc] at H1_
  have H1 := Lib.hid H1_
  clear H1_
  obtain ⟨b2, HB2⟩ : ∃ z, Hid (w.heap.size = z) := ⟨_, rfl⟩
  rw [HB2.out] at H1
  have HX := Lib.hid hX
  have HY := Lib.hid hY
  have hno : ¬ (s.length = 1 ∧ t.length = 1 ∧ a.length ≠ b.length) := by omega
  have hN : bsN a t b = bn := by unfold bsN; split <;> omega
  have eE : bsE s a t b = match bsGo s a t b bn with | none => 14 | some _ => 0 := by unfold bsE; rw [if_neg hno, hN]
  have eA : bsA s a t b = match bsGo s a t b bn with | none => [] | some r => [r] := by unfold bsA; rw [if_neg hno, hN]
  obtain ⟨E, HE⟩ : ∃ z, Hid (bsE s a t b = z) := ⟨_, rfl⟩
  obtain ⟨A, HA⟩ : ∃ z, Hid (bsA s a t b = z) := ⟨_, rfl⟩
  rw [HE.out] at eE ⊢
  rw [HA.out] at eA ⊢
  have HEE := Lib.hid (And.intro eE eA)
  have x0 := H1.out.cell (i := 0) rfl 0 _ rfl
  have x1 := H1.out.cell (i := 0) rfl 1 _ rfl
  have y0 := H1.out.cell (i := 1) rfl 0 _ rfl
  have y1 := H1.out.cell (i := 1) rfl 1 _ rfl
  clear hX hY H0 hsl htl hal hbl hno hN eE eA HE HA
  go_enter Try.func45, Try.ntmps45
  go_upto_region 1 with fail
  rw [HW.out, HB2.out]
  go_wp2_with fail
  clear x0 x1 y0 y1
  go_loopw [8, 43] (fun v8 v43 wr => ∃ (k : Nat) (r : Int), k ≤ bn ∧ v43 = .int .i64 k ∧ v8 = .int .i64 r ∧ Hid (Sp Non w wr [Pt.row ⟨38, 2, some ⟨b2, 0, none⟩, 1, 1, [.slice sa 0 sc, .slice aa 1 ac]⟩, Pt.row ⟨38, 2, some ⟨b2 + 1, 0, none⟩, 1, 1, [.slice ta 1 tc, .slice ba bn bc]⟩, Pt.row ⟨38, 2, some ⟨b2 + 1 + 1, 0, none⟩, 1, 1, [.slice none 0 0, .slice none 0 0]⟩]) ∧ Hid (bsGo s a t b k = some r ∧ (-9223372036854775808 ≤ r ∧ r ≤ 9223372036854775807))) (fun _ v43 _ => bn - (RowKit.intOf v43).toNat)
  case atStart => exact ⟨0, 0, by omega, rfl, rfl, H1, rfl, by omega⟩
  case round =>
    clear H1
    obtain ⟨k, r, hk, rfl, rfl, HO, HG⟩ := hrel
    by_cases hlt : k < bn
    · have hlt' : (k : Int) < bn := by omega
      have CX0 := pick_any (HX.out.below HO.out.belowN (Nat.le_refl _)) k (by first | (simp; done) | (simp; omega))
      have hpx := pk_rng HX.out k
      have hpy := pk_rng HY.out k
      simp only [Ar.v] at CX0
      simp only at hpx hpy
      have hst : bsGo s a t b (k + 1) = if fit (r * pkV s a k) then if fit (r * pkV s a k + pkV t b k) then some (r * pkV s a k + pkV t b k) else none else none := by rw [bsGo, HG.out.1]
      obtain ⟨px, HPX⟩ : ∃ z, Hid (pkV s a k = z) := ⟨_, rfl⟩
      obtain ⟨py, HPY⟩ : ∃ z, Hid (pkV t b k = z) := ⟨_, rfl⟩
      rw [HPX.out] at CX0 hpx hst
      rw [HPY.out] at hpy hst
      have HST := Lib.hid hst
      have CX := Lib.hid CX0
      have HPR := Lib.hid (And.intro hpx hpy)
      have CM := Lib.hid (fun w => mul_any r px w HG.out.2 hpx)
      have x0 := HO.out.cell (i := 0) rfl 0 _ rfl
      have x1 := HO.out.cell (i := 0) rfl 1 _ rfl
      clear CX0 hpx hpy hst
      go_wp2_with fail
      refine CX.out.mono ?_; rintro e w3 ⟨rfl, hb3⟩
      have H3_ := HO.out.via hb3
      try simp only [List.cons_append, List.nil_append, List.set_cons_zero, List.set_cons_succ, List.map_cons, List.map_nil, List.getD_cons_zero, List.getD_cons_succ, World.size_alloc] at H3_
      have H3 := Lib.hid H3_
      clear H3_
      clear hb3 CX x0 x1
      go_wp2_with fail
      refine (CM.out _).mono ?_; rintro e w4 ⟨rfl, n4, hw4⟩
      have H4_ := H3.out.via (show Below _ _ w4 from by rw [hw4]; exact adrew _ _)
      try simp only [List.cons_append, List.nil_append, List.set_cons_zero, List.set_cons_succ, List.map_cons, List.map_nil, List.getD_cons_zero, List.getD_cons_succ, World.size_alloc] at H4_
      have H4 := Lib.hid H4_
      clear H4_
      clear hw4 CM H3
      have HNO : Hid (bsGo s a t b (k + 1) = none → E = 14 ∧ A = []) := fun h => by
        have h2 := bsGo_none h (bn - (k + 1))
        rw [show k + 1 + (bn - (k + 1)) = bn by omega] at h2
        exact ⟨by rw [HEE.out.1, h2], by rw [HEE.out.2, h2]⟩
      cases hfit : fit (r * px)
      · obtain ⟨r1, r2⟩ := HNO.out (by rw [HST.out, hfit]; rfl)
        subst r1 r2
        have x2 := H4.out.cell (i := 2) rfl 0 _ rfl
        have x3 := H4.out.cell (i := 2) rfl 1 _ rfl
        have f2 := H4.out.frozen (i := 2) rfl 0
        have f3 := H4.out.frozen (i := 2) rfl 1
        have HF : Hid (∀ u v, MadeE w [] [] 14 (.returned (.tuple #[.agg #[.slice none 0 0, .slice none 0 0], .int .i64 14])) ((w4.setCell ⟨b2 + 1 + 1, 0, none⟩ u).setCell ⟨b2 + 1 + 1, 1, none⟩ v)) := fun u v => made_nil 14 ((H4.out.put (i := 2) rfl 0 u).put (i := 2) rfl 1 v).belowN
        clear hfit
        go_wp2
        exact bodyPost_ret (v := .tuple #[.agg #[.slice none 0 0, .slice none 0 0], .int .i64 14]) (by simp [results, Try.results45, go_sem, *]) rfl (HF.out _ _)
      · rw [val_of hfit]
        have hpr := (fit_iff _).1 hfit
        have hst := HST.out
        rw [hfit, if_pos rfl] at hst
        obtain ⟨p, HP⟩ : ∃ z, Hid (r * px = z) := ⟨_, rfl⟩
        rw [HP.out] at hpr hst ⊢
        have CY0 := pick_any (HY.out.below H4.out.belowN (Nat.le_refl _)) k (by first | (simp; done) | (simp; omega))
        simp only [Ar.v] at CY0
        rw [HPY.out] at CY0
        have CY := Lib.hid CY0
        have CAD := Lib.hid (fun w => add_any p py w hpr HPR.out.2)
        have HST2 := Lib.hid hst
        have y0 := H4.out.cell (i := 1) rfl 0 _ rfl
        have y1 := H4.out.cell (i := 1) rfl 1 _ rfl
        clear hst CY0 HST hpr hfit
        go_wp2_with fail
        refine CY.out.mono ?_; rintro e w5 ⟨rfl, hb5⟩
        have H5_ := H4.out.via hb5
        try simp only [List.cons_append, List.nil_append, List.set_cons_zero, List.set_cons_succ, List.map_cons, List.map_nil, List.getD_cons_zero, List.getD_cons_succ, World.size_alloc] at H5_
        have H5 := Lib.hid H5_
        clear H5_
        clear hb5 CY y0 y1 H4
        go_wp2_with fail
        refine (CAD.out _).mono ?_; rintro e w6 ⟨rfl, n6, hw6⟩
        have H6_ := H5.out.via (show Below _ _ w6 from by rw [hw6]; exact adrew _ _)
        try simp only [List.cons_append, List.nil_append, List.set_cons_zero, List.set_cons_succ, List.map_cons, List.map_nil, List.getD_cons_zero, List.getD_cons_succ, World.size_alloc] at H6_
        have H6 := Lib.hid H6_
        clear H6_
        clear hw6 CAD H5
        cases hfit : fit (p + py)
        · obtain ⟨r1, r2⟩ := HNO.out (by rw [HST2.out, hfit]; rfl)
          subst r1 r2
          have x2 := H6.out.cell (i := 2) rfl 0 _ rfl
          have x3 := H6.out.cell (i := 2) rfl 1 _ rfl
          have f2 := H6.out.frozen (i := 2) rfl 0
          have f3 := H6.out.frozen (i := 2) rfl 1
          have HF : Hid (∀ u v, MadeE w [] [] 14 (.returned (.tuple #[.agg #[.slice none 0 0, .slice none 0 0], .int .i64 14])) ((w6.setCell ⟨b2 + 1 + 1, 0, none⟩ u).setCell ⟨b2 + 1 + 1, 1, none⟩ v)) := fun u v => made_nil 14 ((H6.out.put (i := 2) rfl 0 u).put (i := 2) rfl 1 v).belowN
          clear hfit
          go_wp2
          exact bodyPost_ret (v := .tuple #[.agg #[.slice none 0 0, .slice none 0 0], .int .i64 14]) (by simp [results, Try.results45, go_sem, *]) rfl (HF.out _ _)
        · rw [val_of hfit]
          have hpr := (fit_iff _).1 hfit
          have hst := HST2.out
          rw [hfit, if_pos rfl] at hst
          obtain ⟨q, HQ⟩ : ∃ z, Hid (p + py = z) := ⟨_, rfl⟩
          rw [HQ.out] at hpr hst ⊢
          have HG2 := Lib.hid (And.intro hst hpr)
          clear hst hpr hfit HST2
          go_wp2
          go_roundw
          case rel => exact ⟨k + 1, q, by omega, by go_num, rfl, H6, HG2⟩
          case measure => simp [RowKit.intOf] <;> omega
    · have hge : ¬ ((k : Int) < bn) := by omega
      obtain rfl : k = bn := by omega
      have r1 : E = 0 := by rw [HEE.out.1, HG.out.1]
      have r2 : A = [r] := by rw [HEE.out.2, HG.out.1]
      subst r1 r2
      have CS := Lib.hid (scalar_any r wr HG.out.2)
      go_wp2_with fail
      refine CS.out.mono ?_; rintro e w7 ⟨⟨ma, mn, mc, na, nn, nc, ms, ns⟩, rfl, hI, hs, ha, hO, hb⟩
      simp only at hs ha
      subst hs ha
      simp only [Ar.v]
      have H7_ := HO.out.arrNew hI hO hb
      try simp only [List.cons_append, List.nil_append, List.set_cons_zero, List.set_cons_succ, List.map_cons, List.map_nil, List.getD_cons_zero, List.getD_cons_succ, World.size_alloc] at H7_
      have H7 := Lib.hid H7_
      clear H7_
      have x2 := H7.out.cell (i := 2) rfl 0 _ rfl
      have x3 := H7.out.cell (i := 2) rfl 1 _ rfl
      have f2 := H7.out.frozen (i := 2) rfl 0
      have f3 := H7.out.frozen (i := 2) rfl 1
      have HF : Hid (∀ u v, MadeE w [] [r] 0 (.returned (.tuple #[.agg #[.slice ma mn mc, .slice na nn nc], .int .i64 0])) ((w7.setCell ⟨b2 + 1 + 1, 0, none⟩ u).setCell ⟨b2 + 1 + 1, 1, none⟩ v)) := fun u v => ((H7.out.put (i := 2) rfl 0 u).put (i := 2) rfl 1 v).madeE (i := 3) (B := ⟨ma, mn, mc, na, nn, nc, [], [r]⟩) rfl 0
      clear hI hO hb CS
      go_wp2
      exact bodyPost_ret (v := .tuple #[.agg #[.slice ma mn mc, .slice na nn nc], .int .i64 0]) (by simp [results, Try.results45, go_sem, *]) rfl (HF.out _ _)
set_option maxRecDepth 100000 in
set_option maxHeartbeats 1600000 in
theorem base_2 {w : World} {X Y : Ar} (hX : X.Is w) (hY : Y.Is w) (h1 : X.sn = 1) (h2 : Y.sn = 0)
    (h3 : X.an ≤ 4096) (h4 : Y.an = 1)
    : Calls Try.prog 45 #[X.v, Y.v] w (MadeE w [] (bsA X.s X.a Y.s Y.a) (bsE X.s X.a Y.s Y.a)) := by
  obtain ⟨sa, sn, sc, aa, an, ac, s, a⟩ := X
  obtain ⟨ta, tn, tc, ba, bn, bc, t, b⟩ := Y
  simp only [Ar.v]
  simp only at h1 h2 h3 h4
  have hsl : s.length = sn := hX.shp.len
  have htl : t.length = tn := hY.shp.len
  have hal : a.length = an := hX.ats.len
  have hbl : b.length = bn := hY.ats.len
  rw [h1] at hsl
  rw [h2] at htl
  subst h1 h2
  subst h4
  obtain ⟨W, HW⟩ : ∃ z, Hid (((w.alloc (.cells #[.slice sa 1 sc, .slice aa an ac] 38)).alloc (.cells #[.slice ta 0 tc, .slice ba 1 bc] 38)).alloc (.cells #[.slice none 0 0, .slice none 0 0] 38) = z) := ⟨_, rfl⟩
  have H0 := (((Sp.start Non w).alloc 38 2 1 #[.slice sa 1 sc, .slice aa an ac] rfl (by decide)).alloc 38 2 1 #[.slice ta 0 tc, .slice ba 1 bc] rfl (by decide)).alloc 38 2 1 #[.slice none 0 0, .slice none 0 0] rfl (by decide)
  rw [HW.out] at H0
  have H1_ := H0
  try simp only [List.cons_append, List.nil_append, List.set_cons_zero, List.set_cons_succ, List.map_cons, List.map_nil, List.getD_cons_zero, List.getD_cons_succ, World.size_alloc] at H1_
  have H1 := Lib.hid H1_
  clear H1_
  obtain ⟨b2, HB2⟩ : ∃ z, Hid (w.heap.size = z) := ⟨_, rfl⟩
  rw [HB2.out] at H1
  have HX := Lib.hid hX
  have HY := Lib.hid hY
  have hno : ¬ (s.length = 1 ∧ t.length = 1 ∧ a.length ≠ b.length) := by omega
  have hN : bsN a t b = an := by unfold bsN; split <;> omega
  have eE : bsE s a t b = match bsGo s a t b an with | none => 14 | some _ => 0 := by unfold bsE; rw [if_neg hno, hN]
  have eA : bsA s a t b = match bsGo s a t b an with | none => [] | some r => [r] := by unfold bsA; rw [if_neg hno, hN]
  obtain ⟨E, HE⟩ : ∃ z, Hid (bsE s a t b = z) := ⟨_, rfl⟩
  obtain ⟨A, HA⟩ : ∃ z, Hid (bsA s a t b = z) := ⟨_, rfl⟩
  rw [HE.out] at eE ⊢
  rw [HA.out] at eA ⊢
  have HEE := Lib.hid (And.intro eE eA)
  have x0 := H1.out.cell (i := 0) rfl 0 _ rfl
  have x1 := H1.out.cell (i := 0) rfl 1 _ rfl
  have y0 := H1.out.cell (i := 1) rfl 0 _ rfl
  have y1 := H1.out.cell (i := 1) rfl 1 _ rfl
  clear hX hY H0 hsl htl hal hbl hno hN eE eA HE HA
  go_enter Try.func45, Try.ntmps45
  go_upto_region 1 with fail
  rw [HW.out, HB2.out]
  go_wp2_with fail
  clear x0 x1 y0 y1
  go_loopw [8, 43] (fun v8 v43 wr => ∃ (k : Nat) (r : Int), k ≤ an ∧ v43 = .int .i64 k ∧ v8 = .int .i64 r ∧ Hid (Sp Non w wr [Pt.row ⟨38, 2, some ⟨b2, 0, none⟩, 1, 1, [.slice sa 1 sc, .slice aa an ac]⟩, Pt.row ⟨38, 2, some ⟨b2 + 1, 0, none⟩, 1, 1, [.slice ta 0 tc, .slice ba 1 bc]⟩, Pt.row ⟨38, 2, some ⟨b2 + 1 + 1, 0, none⟩, 1, 1, [.slice none 0 0, .slice none 0 0]⟩]) ∧ Hid (bsGo s a t b k = some r ∧ (-9223372036854775808 ≤ r ∧ r ≤ 9223372036854775807))) (fun _ v43 _ => an - (RowKit.intOf v43).toNat)
  case atStart => exact ⟨0, 0, by omega, rfl, rfl, H1, rfl, by omega⟩
  case round =>
    clear H1
    obtain ⟨k, r, hk, rfl, rfl, HO, HG⟩ := hrel
    by_cases hlt : k < an
    · have hlt' : (k : Int) < an := by omega
      have CX0 := pick_any (HX.out.below HO.out.belowN (Nat.le_refl _)) k (by first | (simp; done) | (simp; omega))
      have hpx := pk_rng HX.out k
      have hpy := pk_rng HY.out k
      simp only [Ar.v] at CX0
      simp only at hpx hpy
      have hst : bsGo s a t b (k + 1) = if fit (r * pkV s a k) then if fit (r * pkV s a k + pkV t b k) then some (r * pkV s a k + pkV t b k) else none else none := by rw [bsGo, HG.out.1]
      obtain ⟨px, HPX⟩ : ∃ z, Hid (pkV s a k = z) := ⟨_, rfl⟩
      obtain ⟨py, HPY⟩ : ∃ z, Hid (pkV t b k = z) := ⟨_, rfl⟩
      rw [HPX.out] at CX0 hpx hst
      rw [HPY.out] at hpy hst
      have HST := Lib.hid hst
      have CX := Lib.hid CX0
      have HPR := Lib.hid (And.intro hpx hpy)
      have CM := Lib.hid (fun w => mul_any r px w HG.out.2 hpx)
      have x0 := HO.out.cell (i := 0) rfl 0 _ rfl
      have x1 := HO.out.cell (i := 0) rfl 1 _ rfl
      clear CX0 hpx hpy hst
      go_wp2_with fail
      refine CX.out.mono ?_; rintro e w3 ⟨rfl, hb3⟩
      have H3_ := HO.out.via hb3
      try simp only [List.cons_append, List.nil_append, List.set_cons_zero, List.set_cons_succ, List.map_cons, List.map_nil, List.getD_cons_zero, List.getD_cons_succ, World.size_alloc] at H3_
      have H3 := Lib.hid H3_
      clear H3_
      clear hb3 CX x0 x1
      go_wp2_with fail
      refine (CM.out _).mono ?_; rintro e w4 ⟨rfl, n4, hw4⟩
      have H4_ := H3.out.via (show Below _ _ w4 from by rw [hw4]; exact adrew _ _)
      try simp only [List.cons_append, List.nil_append, List.set_cons_zero, List.set_cons_succ, List.map_cons, List.map_nil, List.getD_cons_zero, List.getD_cons_succ, World.size_alloc] at H4_
      have H4 := Lib.hid H4_
      clear H4_
      clear hw4 CM H3
      have HNO : Hid (bsGo s a t b (k + 1) = none → E = 14 ∧ A = []) := fun h => by
        have h2 := bsGo_none h (an - (k + 1))
        rw [show k + 1 + (an - (k + 1)) = an by omega] at h2
        exact ⟨by rw [HEE.out.1, h2], by rw [HEE.out.2, h2]⟩
      cases hfit : fit (r * px)
      · obtain ⟨r1, r2⟩ := HNO.out (by rw [HST.out, hfit]; rfl)
        subst r1 r2
        have x2 := H4.out.cell (i := 2) rfl 0 _ rfl
        have x3 := H4.out.cell (i := 2) rfl 1 _ rfl
        have f2 := H4.out.frozen (i := 2) rfl 0
        have f3 := H4.out.frozen (i := 2) rfl 1
        have HF : Hid (∀ u v, MadeE w [] [] 14 (.returned (.tuple #[.agg #[.slice none 0 0, .slice none 0 0], .int .i64 14])) ((w4.setCell ⟨b2 + 1 + 1, 0, none⟩ u).setCell ⟨b2 + 1 + 1, 1, none⟩ v)) := fun u v => made_nil 14 ((H4.out.put (i := 2) rfl 0 u).put (i := 2) rfl 1 v).belowN
        clear hfit
        go_wp2
        exact bodyPost_ret (v := .tuple #[.agg #[.slice none 0 0, .slice none 0 0], .int .i64 14]) (by simp [results, Try.results45, go_sem, *]) rfl (HF.out _ _)
      · rw [val_of hfit]
        have hpr := (fit_iff _).1 hfit
        have hst := HST.out
        rw [hfit, if_pos rfl] at hst
        obtain ⟨p, HP⟩ : ∃ z, Hid (r * px = z) := ⟨_, rfl⟩
        rw [HP.out] at hpr hst ⊢
        have CY0 := pick_any (HY.out.below H4.out.belowN (Nat.le_refl _)) k (by first | (simp; done) | (simp; omega))
        simp only [Ar.v] at CY0
        rw [HPY.out] at CY0
        have CY := Lib.hid CY0
        have CAD := Lib.hid (fun w => add_any p py w hpr HPR.out.2)
        have HST2 := Lib.hid hst
        have y0 := H4.out.cell (i := 1) rfl 0 _ rfl
        have y1 := H4.out.cell (i := 1) rfl 1 _ rfl
        clear hst CY0 HST hpr hfit
        go_wp2_with fail
        refine CY.out.mono ?_; rintro e w5 ⟨rfl, hb5⟩
        have H5_ := H4.out.via hb5
        try simp only [List.cons_append, List.nil_append, List.set_cons_zero, List.set_cons_succ, List.map_cons, List.map_nil, List.getD_cons_zero, List.getD_cons_succ, World.size_alloc] at H5_
        have H5 := Lib.hid H5_
        clear H5_
        clear hb5 CY y0 y1 H4
        go_wp2_with fail
        refine (CAD.out _).mono ?_; rintro e w6 ⟨rfl, n6, hw6⟩
        have H6_ := H5.out.via (show Below _ _ w6 from by rw [hw6]; exact adrew _ _)
        try simp only [List.cons_append, List.nil_append, List.set_cons_zero, List.set_cons_succ, List.map_cons, List.map_nil, List.getD_cons_zero, List.getD_cons_succ, World.size_alloc] at H6_
        have H6 := Lib.hid H6_
        clear H6_
        clear hw6 CAD H5
        cases hfit : fit (p + py)
        · obtain ⟨r1, r2⟩ := HNO.out (by rw [HST2.out, hfit]; rfl)
          subst r1 r2
          have x2 := H6.out.cell (i := 2) rfl 0 _ rfl
          have x3 := H6.out.cell (i := 2) rfl 1 _ rfl
          have f2 := H6.out.frozen (i := 2) rfl 0
          have f3 := H6.out.frozen (i := 2) rfl 1
          have HF : Hid (∀ u v, MadeE w [] [] 14 (.returned (.tuple #[.agg #[.slice none 0 0, .slice none 0 0], .int .i64 14])) ((w6.setCell ⟨b2 + 1 + 1, 0, none⟩ u).setCell ⟨b2 + 1 + 1, 1, none⟩ v)) := fun u v => made_nil 14 ((H6.out.put (i := 2) rfl 0 u).put (i := 2) rfl 1 v).belowN
          clear hfit
          go_wp2
          exact bodyPost_ret (v := .tuple #[.agg #[.slice none 0 0, .slice none 0 0], .int .i64 14]) (by simp [results, Try.results45, go_sem, *]) rfl (HF.out _ _)
        · rw [val_of hfit]
          have hpr := (fit_iff _).1 hfit
          have hst := HST2.out
          rw [hfit, if_pos rfl] at hst
          obtain ⟨q, HQ⟩ : ∃ z, Hid (p + py = z) := ⟨_, rfl⟩
          rw [HQ.out] at hpr hst ⊢
          have HG2 := Lib.hid (And.intro hst hpr)
          clear hst hpr hfit HST2
          go_wp2
          go_roundw
          case rel => exact ⟨k + 1, q, by omega, by go_num, rfl, H6, HG2⟩
          case measure => simp [RowKit.intOf] <;> omega
    · have hge : ¬ ((k : Int) < an) := by omega
      obtain rfl : k = an := by omega
      have r1 : E = 0 := by rw [HEE.out.1, HG.out.1]
      have r2 : A = [r] := by rw [HEE.out.2, HG.out.1]
      subst r1 r2
      have CS := Lib.hid (scalar_any r wr HG.out.2)
      go_wp2_with fail
      refine CS.out.mono ?_; rintro e w7 ⟨⟨ma, mn, mc, na, nn, nc, ms, ns⟩, rfl, hI, hs, ha, hO, hb⟩
      simp only at hs ha
      subst hs ha
      simp only [Ar.v]
      have H7_ := HO.out.arrNew hI hO hb
      try simp only [List.cons_append, List.nil_append, List.set_cons_zero, List.set_cons_succ, List.map_cons, List.map_nil, List.getD_cons_zero, List.getD_cons_succ, World.size_alloc] at H7_
      have H7 := Lib.hid H7_
      clear H7_
      have x2 := H7.out.cell (i := 2) rfl 0 _ rfl
      have x3 := H7.out.cell (i := 2) rfl 1 _ rfl
      have f2 := H7.out.frozen (i := 2) rfl 0
      have f3 := H7.out.frozen (i := 2) rfl 1
      have HF : Hid (∀ u v, MadeE w [] [r] 0 (.returned (.tuple #[.agg #[.slice ma mn mc, .slice na nn nc], .int .i64 0])) ((w7.setCell ⟨b2 + 1 + 1, 0, none⟩ u).setCell ⟨b2 + 1 + 1, 1, none⟩ v)) := fun u v => ((H7.out.put (i := 2) rfl 0 u).put (i := 2) rfl 1 v).madeE (i := 3) (B := ⟨ma, mn, mc, na, nn, nc, [], [r]⟩) rfl 0
      clear hI hO hb CS
      go_wp2
      exact bodyPost_ret (v := .tuple #[.agg #[.slice ma mn mc, .slice na nn nc], .int .i64 0]) (by simp [results, Try.results45, go_sem, *]) rfl (HF.out _ _)
set_option maxRecDepth 100000 in
set_option maxHeartbeats 1600000 in
theorem base_3 {w : World} {X Y : Ar} (hX : X.Is w) (hY : Y.Is w) (h1 : X.sn = 1) (h2 : Y.sn = 1)
    (h3 : X.an = Y.an) (h4 : Y.an ≤ 4096)
    : Calls Try.prog 45 #[X.v, Y.v] w (MadeE w [] (bsA X.s X.a Y.s Y.a) (bsE X.s X.a Y.s Y.a)) := by
  obtain ⟨sa, sn, sc, aa, an, ac, s, a⟩ := X
  obtain ⟨ta, tn, tc, ba, bn, bc, t, b⟩ := Y
  simp only [Ar.v]
  simp only at h1 h2 h3 h4
  have hsl : s.length = sn := hX.shp.len
  have htl : t.length = tn := hY.shp.len
  have hal : a.length = an := hX.ats.len
  have hbl : b.length = bn := hY.ats.len
  rw [h1] at hsl
  rw [h2] at htl
  subst h1 h2
  subst h3
  obtain ⟨W, HW⟩ : ∃ z, Hid (((w.alloc (.cells #[.slice sa 1 sc, .slice aa an ac] 38)).alloc (.cells #[.slice ta 1 tc, .slice ba an bc] 38)).alloc (.cells #[.slice none 0 0, .slice none 0 0] 38) = z) := ⟨_, rfl⟩
  have H0 := (((Sp.start Non w).alloc 38 2 1 #[.slice sa 1 sc, .slice aa an ac] rfl (by decide)).alloc 38 2 1 #[.slice ta 1 tc, .slice ba an bc] rfl (by decide)).alloc 38 2 1 #[.slice none 0 0, .slice none 0 0] rfl (by decide)
  rw [HW.out] at H0
  have H1_ := H0
  try simp only [List.cons_append, List.nil_append, List.set_cons_zero, List.set_cons_succ, List.map_cons, List.map_nil, List.getD_cons_zero, List.getD_cons_succ, World.size_alloc] at H1_
  have H1 := Lib.hid H1_
  clear H1_
  obtain ⟨b2, HB2⟩ : ∃ z, Hid (w.heap.size = z) := ⟨_, rfl⟩
  rw [HB2.out] at H1
  have HX := Lib.hid hX
  have HY := Lib.hid hY
  have hno : ¬ (s.length = 1 ∧ t.length = 1 ∧ a.length ≠ b.length) := by omega
  have hN : bsN a t b = an := by unfold bsN; split <;> omega
  have eE : bsE s a t b = match bsGo s a t b an with | none => 14 | some _ => 0 := by unfold bsE; rw [if_neg hno, hN]
  have eA : bsA s a t b = match bsGo s a t b an with | none => [] | some r => [r] := by unfold bsA; rw [if_neg hno, hN]
  obtain ⟨E, HE⟩ : ∃ z, Hid (bsE s a t b = z) := ⟨_, rfl⟩
  obtain ⟨A, HA⟩ : ∃ z, Hid (bsA s a t b = z) := ⟨_, rfl⟩
  rw [HE.out] at eE ⊢
  rw [HA.out] at eA ⊢
  have HEE := Lib.hid (And.intro eE eA)
  have x0 := H1.out.cell (i := 0) rfl 0 _ rfl
  have x1 := H1.out.cell (i := 0) rfl 1 _ rfl
  have y0 := H1.out.cell (i := 1) rfl 0 _ rfl
  have y1 := H1.out.cell (i := 1) rfl 1 _ rfl
  clear hX hY H0 hsl htl hal hbl hno hN eE eA HE HA
  go_enter Try.func45, Try.ntmps45
  go_upto_region 1 with fail
  rw [HW.out, HB2.out]
  go_wp2_with fail
  clear x0 x1 y0 y1
  go_loopw [8, 43] (fun v8 v43 wr => ∃ (k : Nat) (r : Int), k ≤ an ∧ v43 = .int .i64 k ∧ v8 = .int .i64 r ∧ Hid (Sp Non w wr [Pt.row ⟨38, 2, some ⟨b2, 0, none⟩, 1, 1, [.slice sa 1 sc, .slice aa an ac]⟩, Pt.row ⟨38, 2, some ⟨b2 + 1, 0, none⟩, 1, 1, [.slice ta 1 tc, .slice ba an bc]⟩, Pt.row ⟨38, 2, some ⟨b2 + 1 + 1, 0, none⟩, 1, 1, [.slice none 0 0, .slice none 0 0]⟩]) ∧ Hid (bsGo s a t b k = some r ∧ (-9223372036854775808 ≤ r ∧ r ≤ 9223372036854775807))) (fun _ v43 _ => an - (RowKit.intOf v43).toNat)
  case atStart => exact ⟨0, 0, by omega, rfl, rfl, H1, rfl, by omega⟩
  case round =>
    clear H1
    obtain ⟨k, r, hk, rfl, rfl, HO, HG⟩ := hrel
    by_cases hlt : k < an
    · have hlt' : (k : Int) < an := by omega
      have CX0 := pick_any (HX.out.below HO.out.belowN (Nat.le_refl _)) k (by first | (simp; done) | (simp; omega))
      have hpx := pk_rng HX.out k
      have hpy := pk_rng HY.out k
      simp only [Ar.v] at CX0
      simp only at hpx hpy
      have hst : bsGo s a t b (k + 1) = if fit (r * pkV s a k) then if fit (r * pkV s a k + pkV t b k) then some (r * pkV s a k + pkV t b k) else none else none := by rw [bsGo, HG.out.1]
      obtain ⟨px, HPX⟩ : ∃ z, Hid (pkV s a k = z) := ⟨_, rfl⟩
      obtain ⟨py, HPY⟩ : ∃ z, Hid (pkV t b k = z) := ⟨_, rfl⟩
      rw [HPX.out] at CX0 hpx hst
      rw [HPY.out] at hpy hst
      have HST := Lib.hid hst
      have CX := Lib.hid CX0
      have HPR := Lib.hid (And.intro hpx hpy)
      have CM := Lib.hid (fun w => mul_any r px w HG.out.2 hpx)
      have x0 := HO.out.cell (i := 0) rfl 0 _ rfl
      have x1 := HO.out.cell (i := 0) rfl 1 _ rfl
      clear CX0 hpx hpy hst
      go_wp2_with fail
      refine CX.out.mono ?_; rintro e w3 ⟨rfl, hb3⟩
      have H3_ := HO.out.via hb3
      try simp only [List.cons_append, List.nil_append, List.set_cons_zero, List.set_cons_succ, List.map_cons, List.map_nil, List.getD_cons_zero, List.getD_cons_succ, World.size_alloc] at H3_
      have H3 := Lib.hid H3_
      clear H3_
      clear hb3 CX x0 x1
      go_wp2_with fail
      refine (CM.out _).mono ?_; rintro e w4 ⟨rfl, n4, hw4⟩
      have H4_ := H3.out.via (show Below _ _ w4 from by rw [hw4]; exact adrew _ _)
      try simp only [List.cons_append, List.nil_append, List.set_cons_zero, List.set_cons_succ, List.map_cons, List.map_nil, List.getD_cons_zero, List.getD_cons_succ, World.size_alloc] at H4_
      have H4 := Lib.hid H4_
      clear H4_
      clear hw4 CM H3
      have HNO : Hid (bsGo s a t b (k + 1) = none → E = 14 ∧ A = []) := fun h => by
        have h2 := bsGo_none h (an - (k + 1))
        rw [show k + 1 + (an - (k + 1)) = an by omega] at h2
        exact ⟨by rw [HEE.out.1, h2], by rw [HEE.out.2, h2]⟩
      cases hfit : fit (r * px)
      · obtain ⟨r1, r2⟩ := HNO.out (by rw [HST.out, hfit]; rfl)
        subst r1 r2
        have x2 := H4.out.cell (i := 2) rfl 0 _ rfl
        have x3 := H4.out.cell (i := 2) rfl 1 _ rfl
        have f2 := H4.out.frozen (i := 2) rfl 0
        have f3 := H4.out.frozen (i := 2) rfl 1
        have HF : Hid (∀ u v, MadeE w [] [] 14 (.returned (.tuple #[.agg #[.slice none 0 0, .slice none 0 0], .int .i64 14])) ((w4.setCell ⟨b2 + 1 + 1, 0, none⟩ u).setCell ⟨b2 + 1 + 1, 1, none⟩ v)) := fun u v => made_nil 14 ((H4.out.put (i := 2) rfl 0 u).put (i := 2) rfl 1 v).belowN
        clear hfit
        go_wp2
        exact bodyPost_ret (v := .tuple #[.agg #[.slice none 0 0, .slice none 0 0], .int .i64 14]) (by simp [results, Try.results45, go_sem, *]) rfl (HF.out _ _)
      · rw [val_of hfit]
        have hpr := (fit_iff _).1 hfit
        have hst := HST.out
        rw [hfit, if_pos rfl] at hst
        obtain ⟨p, HP⟩ : ∃ z, Hid (r * px = z) := ⟨_, rfl⟩
        rw [HP.out] at hpr hst ⊢
        have CY0 := pick_any (HY.out.below H4.out.belowN (Nat.le_refl _)) k (by first | (simp; done) | (simp; omega))
        simp only [Ar.v] at CY0
        rw [HPY.out] at CY0
        have CY := Lib.hid CY0
        have CAD := Lib.hid (fun w => add_any p py w hpr HPR.out.2)
        have HST2 := Lib.hid hst
        have y0 := H4.out.cell (i := 1) rfl 0 _ rfl
        have y1 := H4.out.cell (i := 1) rfl 1 _ rfl
        clear hst CY0 HST hpr hfit
        go_wp2_with fail
        refine CY.out.mono ?_; rintro e w5 ⟨rfl, hb5⟩
        have H5_ := H4.out.via hb5
        try simp only [List.cons_append, List.nil_append, List.set_cons_zero, List.set_cons_succ, List.map_cons, List.map_nil, List.getD_cons_zero, List.getD_cons_succ, World.size_alloc] at H5_
        have H5 := Lib.hid H5_
        clear H5_
        clear hb5 CY y0 y1 H4
        go_wp2_with fail
        refine (CAD.out _).mono ?_; rintro e w6 ⟨rfl, n6, hw6⟩
        have H6_ := H5.out.via (show Below _ _ w6 from by rw [hw6]; exact adrew _ _)
        try simp only [List.cons_append, List.nil_append, List.set_cons_zero, List.set_cons_succ, List.map_cons, List.map_nil, List.getD_cons_zero, List.getD_cons_succ, World.size_alloc] at H6_
        have H6 := Lib.hid H6_
        clear H6_
        clear hw6 CAD H5
        cases hfit : fit (p + py)
        · obtain ⟨r1, r2⟩ := HNO.out (by rw [HST2.out, hfit]; rfl)
          subst r1 r2
          have x2 := H6.out.cell (i := 2) rfl 0 _ rfl
          have x3 := H6.out.cell (i := 2) rfl 1 _ rfl
          have f2 := H6.out.frozen (i := 2) rfl 0
          have f3 := H6.out.frozen (i := 2) rfl 1
          have HF : Hid (∀ u v, MadeE w [] [] 14 (.returned (.tuple #[.agg #[.slice none 0 0, .slice none 0 0], .int .i64 14])) ((w6.setCell ⟨b2 + 1 + 1, 0, none⟩ u).setCell ⟨b2 + 1 + 1, 1, none⟩ v)) := fun u v => made_nil 14 ((H6.out.put (i := 2) rfl 0 u).put (i := 2) rfl 1 v).belowN
          clear hfit
          go_wp2
          exact bodyPost_ret (v := .tuple #[.agg #[.slice none 0 0, .slice none 0 0], .int .i64 14]) (by simp [results, Try.results45, go_sem, *]) rfl (HF.out _ _)
        · rw [val_of hfit]
          have hpr := (fit_iff _).1 hfit
          have hst := HST2.out
          rw [hfit, if_pos rfl] at hst
          obtain ⟨q, HQ⟩ : ∃ z, Hid (p + py = z) := ⟨_, rfl⟩
          rw [HQ.out] at hpr hst ⊢
          have HG2 := Lib.hid (And.intro hst hpr)
          clear hst hpr hfit HST2
          go_wp2
          go_roundw
          case rel => exact ⟨k + 1, q, by omega, by go_num, rfl, H6, HG2⟩
          case measure => simp [RowKit.intOf] <;> omega
    · have hge : ¬ ((k : Int) < an) := by omega
      obtain rfl : k = an := by omega
      have r1 : E = 0 := by rw [HEE.out.1, HG.out.1]
      have r2 : A = [r] := by rw [HEE.out.2, HG.out.1]
      subst r1 r2
      have CS := Lib.hid (scalar_any r wr HG.out.2)
      go_wp2_with fail
      refine CS.out.mono ?_; rintro e w7 ⟨⟨ma, mn, mc, na, nn, nc, ms, ns⟩, rfl, hI, hs, ha, hO, hb⟩
      simp only at hs ha
      subst hs ha
      simp only [Ar.v]
      have H7_ := HO.out.arrNew hI hO hb
      try simp only [List.cons_append, List.nil_append, List.set_cons_zero, List.set_cons_succ, List.map_cons, List.map_nil, List.getD_cons_zero, List.getD_cons_succ, World.size_alloc] at H7_
      have H7 := Lib.hid H7_
      clear H7_
      have x2 := H7.out.cell (i := 2) rfl 0 _ rfl
      have x3 := H7.out.cell (i := 2) rfl 1 _ rfl
      have f2 := H7.out.frozen (i := 2) rfl 0
      have f3 := H7.out.frozen (i := 2) rfl 1
      have HF : Hid (∀ u v, MadeE w [] [r] 0 (.returned (.tuple #[.agg #[.slice ma mn mc, .slice na nn nc], .int .i64 0])) ((w7.setCell ⟨b2 + 1 + 1, 0, none⟩ u).setCell ⟨b2 + 1 + 1, 1, none⟩ v)) := fun u v => ((H7.out.put (i := 2) rfl 0 u).put (i := 2) rfl 1 v).madeE (i := 3) (B := ⟨ma, mn, mc, na, nn, nc, [], [r]⟩) rfl 0
      clear hI hO hb CS
      go_wp2
      exact bodyPost_ret (v := .tuple #[.agg #[.slice ma mn mc, .slice na nn nc], .int .i64 0]) (by simp [results, Try.results45, go_sem, *]) rfl (HF.out _ _)
set_option maxRecDepth 100000 in
set_option maxHeartbeats 800000 in
theorem base_bad {w : World} {X Y : Ar} (hX : X.Is w) (hY : Y.Is w) (h1 : X.sn = 1) (h2 : Y.sn = 1) (h3 : X.an ≠ Y.an) :
    Calls Try.prog 45 #[X.v, Y.v] w (MadeE w [] (bsA X.s X.a Y.s Y.a) (bsE X.s X.a Y.s Y.a)) := by
  have hno : X.s.length = 1 ∧ Y.s.length = 1 ∧ X.a.length ≠ Y.a.length := ⟨by rw [hX.shp.len, h1], by rw [hY.shp.len, h2], by rw [hX.ats.len, hY.ats.len]; exact h3⟩
  have eE : bsE X.s X.a Y.s Y.a = 11 := by unfold bsE; rw [if_pos hno]
  have eA : bsA X.s X.a Y.s Y.a = [] := by unfold bsA; rw [if_pos hno]
  rw [eE, eA]
  obtain ⟨sa, sn, sc, aa, an, ac, s, a⟩ := X
  obtain ⟨ta, tn, tc, ba, bn, bc, t, b⟩ := Y
  simp only [Ar.v]
  simp only at h1 h2 h3
  subst h1 h2
  have q1 : ((an : Int) != bn) = true := by simp; omega
  have q2 : (an != bn) = true := by simpa using h3
  have HF : Hid (∀ u v, MadeE w [] [] 11 (.returned (.tuple #[.agg #[.slice none 0 0, .slice none 0 0], .int .i64 11])) ((((((w.alloc (.cells #[.slice sa 1 sc, .slice aa an ac] 38)).alloc (.cells #[.slice ta 1 tc, .slice ba bn bc] 38)).alloc (.cells #[.slice none 0 0, .slice none 0 0] 38)).setCell ⟨w.heap.size + 1 + 1, 0, none⟩ u).setCell ⟨w.heap.size + 1 + 1, 1, none⟩ v))) := fun u v => by
    have H0 := (((Sp.start Non w).alloc 38 2 1 #[.slice sa 1 sc, .slice aa an ac] rfl (by decide)).alloc 38 2 1 #[.slice ta 1 tc, .slice ba bn bc] rfl (by decide)).alloc 38 2 1 #[.slice none 0 0, .slice none 0 0] rfl (by decide)
    have H1_ := H0
    try simp only [List.cons_append, List.nil_append, List.set_cons_zero, List.set_cons_succ, List.map_cons, List.map_nil, List.getD_cons_zero, List.getD_cons_succ, World.size_alloc] at H1_
    have H1 := Lib.hid H1_
    clear H1_
    exact made_nil 11 ((H1.out.put (i := 2) rfl 0 u).put (i := 2) rfl 1 v).belowN
  have HG : Hid (MadeE w [] [] 11 (.returned (.tuple #[.agg #[.slice none 0 0, .slice none 0 0], .int .i64 11])) (((w.alloc (.cells #[.slice sa 1 sc, .slice aa an ac] 38)).alloc (.cells #[.slice ta 1 tc, .slice ba bn bc] 38)).alloc (.cells #[.slice none 0 0, .slice none 0 0] 38))) := made_nil 11 ((((Sp.start Non w).alloc 38 2 1 #[.slice sa 1 sc, .slice aa an ac] rfl (by decide)).alloc 38 2 1 #[.slice ta 1 tc, .slice ba bn bc] rfl (by decide)).alloc 38 2 1 #[.slice none 0 0, .slice none 0 0] rfl (by decide)).belowN
  clear hX hY hno eE eA h3
  go_enter Try.func45, Try.ntmps45
  go_wp2
  exact bodyPost_ret (v := .tuple #[.agg #[.slice none 0 0, .slice none 0 0], .int .i64 11]) (by simp [results, Try.results45, go_sem, *]) rfl (by first | exact HG.out | exact HF.out _ _)
theorem base_any {w : World} {X Y : Ar} (hX : X.Is w) (hY : Y.Is w) (h1 : X.sn ≤ 1) (h2 : Y.sn ≤ 1) (h3 : X.sn = 0 → X.an = 1) (h4 : Y.sn = 0 → Y.an = 1) (h5 : X.an ≤ 4096) (h6 : Y.an ≤ 4096) :
    Calls Try.prog 45 #[X.v, Y.v] w (MadeE w [] (bsA X.s X.a Y.s Y.a) (bsE X.s X.a Y.s Y.a)) := by
  rcases (show X.sn = 0 ∨ X.sn = 1 by omega) with e1 | e1
  · rcases (show Y.sn = 0 ∨ Y.sn = 1 by omega) with e2 | e2
    · exact base_0 hX hY e1 e2 (h3 e1) (h4 e2)
    · exact base_1 hX hY e1 e2 (h3 e1) h6
  · rcases (show Y.sn = 0 ∨ Y.sn = 1 by omega) with e2 | e2
    · exact base_2 hX hY e1 e2 h5 (h4 e2)
    · by_cases h : X.an = Y.an
      · exact base_3 hX hY e1 e2 h h6
      · exact base_bad hX hY e1 e2 h
end Go.Proofs.Ytoippfoeghjdoaa
namespace Go.Proofs.Ytoippfoeghjdoaa
open Go.RowKit Go.Lib
set_option linter.unusedVariables false
set_option linter.unusedSimpArgs false
attribute [local go_sem] alloc_drewN setCell_drewN
/-- Behind j digits from behind: what is left, and they; nothing: it leaves 64 bits. -/
def anGo (xs : List Int) (r0 : Int) : Nat → Option (Int × List Int)
  | 0 => some (r0, [])
  | j + 1 => match anGo xs r0 j with
    | none => none
    | some (r, ds) => if xs.getD (xs.length - 1 - j) 0 = 0 then some (0, r :: ds) else if fit (r.fdiv (xs.getD (xs.length - 1 - j) 0)) then some (r.fdiv (xs.getD (xs.length - 1 - j) 0), r.fmod (xs.getD (xs.length - 1 - j) 0) :: ds) else none
def anE (xs : List Int) (r : Int) : Int := match anGo xs r xs.length with | none => 14 | some _ => 0
def anS (s xs : List Int) (r : Int) : List Int := match anGo xs r xs.length with | none => [] | some _ => s
def anA (xs : List Int) (r : Int) : List Int := match anGo xs r xs.length with | none => [] | some (_, ds) => ds
theorem anGo_none {xs : List Int} {r : Int} {j : Nat} (h : anGo xs r j = none) (d : Nat) : anGo xs r (j + d) = none := by
  induction d with
  | zero => exact h
  | succ d ih => rw [← Nat.add_assoc, anGo, ih]
theorem anGo_len {xs : List Int} {r : Int} : ∀ {j : Nat} {p : Int × List Int}, anGo xs r j = some p → p.2.length = j
  | 0, p, h => by simp only [anGo, Option.some.injEq] at h; subst h; rfl
  | j + 1, p, h => by
    rw [anGo] at h
    cases hg : anGo xs r j with
    | none => rw [hg] at h; cases h
    | some q =>
      rw [hg] at h
      have ih := anGo_len hg
      simp only at h
      split at h
      · cases h; simp [ih]
      · split at h
        · cases h; simp [ih]
        · cases h
theorem Sp.zeros {F0 : Nat → Prop} {w0 w : World} {L : List Pt} (H : Sp F0 w0 w L) (E : TypeId) (N : Nat) (hN : N ≤ 1000000) : Sp F0 w0 (w.alloc (.cells (Array.replicate N (.int .i64 0)) E)) (L ++ [Pt.ints E (some ⟨w.heap.size, 0, none⟩) N N (List.replicate N 0)]) :=
  H.intsNew (own_zeros w E N w.heap.size hN (Nat.le_refl _)) (abal _ _) (by omega) (fun i => by simp only [List.getD, List.getElem?_replicate]; split <;> simp)
theorem rng_cons {x : Int} {l : List Int} (hx : -9223372036854775808 ≤ x ∧ x ≤ 9223372036854775807) (h : ∀ i, -9223372036854775808 ≤ l.getD i 0 ∧ l.getD i 0 ≤ 9223372036854775807) : ∀ i, -9223372036854775808 ≤ (x :: l).getD i 0 ∧ (x :: l).getD i 0 ≤ 9223372036854775807
  | 0 => hx
  | i + 1 => by simpa [List.getD] using h i
theorem set_back {n j : Nat} {x : Int} {ds : List Int} (h : j < n) : (List.replicate (n - j) 0 ++ ds).set (n - 1 - j) x = List.replicate (n - (j + 1)) 0 ++ x :: ds := by
  rw [List.set_append_left _ _ (by rw [List.length_replicate]; omega), show n - j = (n - (j + 1)) + 1 by omega, List.replicate_succ', List.set_append_right _ _ (by rw [List.length_replicate]; omega), List.length_replicate, show n - 1 - j - (n - (j + 1)) = 0 by omega, List.append_assoc]
  rfl
set_option maxRecDepth 100000 in
set_option maxHeartbeats 3200000 in
theorem anti_any {w : World} {X : Ar} (hX : X.Is w) (r0 : Int) (hr : -9223372036854775808 ≤ r0 ∧ r0 ≤ 9223372036854775807) (hN : X.an ≤ 4096) :
    Calls Try.prog 51 #[X.v, .int .i64 r0] w (MadeE w (anS X.s X.a r0) (anA X.a r0) (anE X.a r0)) := by
  obtain ⟨sa, sn, sc, aa, an, ac, s, a⟩ := X
  simp only [Ar.v]
  simp only at hN
  obtain ⟨W, HW⟩ : ∃ z, Hid ((w.alloc (.cells #[.slice sa sn sc, .slice aa an ac] 38)).alloc (.cells #[.slice none 0 0, .slice none 0 0] 38) = z) := ⟨_, rfl⟩
  have h1 := ((Sp.start Non w).alloc 38 2 1 #[.slice sa sn sc, .slice aa an ac] rfl (by decide)).alloc 38 2 1 #[.slice none 0 0, .slice none 0 0] rfl (by decide)
  rw [HW.out] at h1
  have H1_ := h1
  try simp only [List.cons_append, List.nil_append, List.set_cons_zero, List.set_cons_succ, List.map_cons, List.map_nil, List.getD_cons_zero, List.getD_cons_succ, World.size_alloc] at H1_
  have H1 := Lib.hid H1_
  clear H1_
  obtain ⟨b2, HB2⟩ : ∃ z, Hid (w.heap.size = z) := ⟨_, rfl⟩
  rw [HB2.out] at H1
  have HX := Lib.hid hX
  have hal : a.length = an := hX.ats.len
  have HAL := Lib.hid hal
  have CA := Lib.hid (fun W1 (hB : Below W.heap.size W W1) => clone_any (hX.shp.below (H1.out.via hB).belowN (Nat.le_refl _)))
  simp only at CA
  obtain ⟨E, HE⟩ : ∃ z, Hid (anE a r0 = z) := ⟨_, rfl⟩
  obtain ⟨S, HS⟩ : ∃ z, Hid (anS s a r0 = z) := ⟨_, rfl⟩
  obtain ⟨A, HA⟩ : ∃ z, Hid (anA a r0 = z) := ⟨_, rfl⟩
  rw [HE.out, HS.out, HA.out]
  have HR0 := Lib.hid hr
  have x0 := H1.out.cell (i := 0) rfl 0 _ rfl
  have x1 := H1.out.cell (i := 0) rfl 1 _ rfl
  have hmk := fun w => mk_int64 an (by omega) w
  have CA0 := Lib.hid (CA.out (W.drew) ((Below.refl _ _).drew))
  have CA1 := Lib.hid (CA.out ((W.alloc (.cells (Array.replicate an (.int .i64 0)) 2)).drew) (((Below.refl _ _).alloc (Nat.le_refl _) _).drew))
  have CA2 := Lib.hid (CA.out ((W.alloc (.cells #[.slice none 0 0, .slice none 0 0] 38)).drew) (((Below.refl _ _).alloc (Nat.le_refl _) _).drew))
  have CA3 := Lib.hid (CA.out (((W.alloc (.cells (Array.replicate an (.int .i64 0)) 2)).alloc (.cells #[.slice none 0 0, .slice none 0 0] 38)).drew) ((((Below.refl _ _).alloc (Nat.le_refl _) _).alloc (by simp) _).drew))
  have CA4 := Lib.hid (CA.out (((W.alloc (.cells #[.slice none 0 0, .slice none 0 0] 38)).alloc (.cells (Array.replicate an (.int .i64 0)) 2)).drew) ((((Below.refl _ _).alloc (Nat.le_refl _) _).alloc (by simp) _).drew))
  have G0_ := H1.out.via (adrew1 _)
  try simp only [List.cons_append, List.nil_append, List.set_cons_zero, List.set_cons_succ, List.map_cons, List.map_nil, List.getD_cons_zero, List.getD_cons_succ, World.size_alloc] at G0_
  have G0 := Lib.hid G0_
  clear G0_
  have G1_ := (H1.out.zeros 2 an (by omega)).via (adrew1 _)
  try simp only [List.cons_append, List.nil_append, List.set_cons_zero, List.set_cons_succ, List.map_cons, List.map_nil, List.getD_cons_zero, List.getD_cons_succ, World.size_alloc] at G1_
  have G1 := Lib.hid G1_
  clear G1_
  have G2_ := (H1.out.alloc 38 2 1 #[.slice none 0 0, .slice none 0 0] rfl (by decide)).via (adrew1 _)
  try simp only [List.cons_append, List.nil_append, List.set_cons_zero, List.set_cons_succ, List.map_cons, List.map_nil, List.getD_cons_zero, List.getD_cons_succ, World.size_alloc] at G2_
  have G2 := Lib.hid G2_
  clear G2_
  have G3_ := ((H1.out.zeros 2 an (by omega)).alloc 38 2 1 #[.slice none 0 0, .slice none 0 0] rfl (by decide)).via (adrew1 _)
  try simp only [List.cons_append, List.nil_append, List.set_cons_zero, List.set_cons_succ, List.map_cons, List.map_nil, List.getD_cons_zero, List.getD_cons_succ, World.size_alloc] at G3_
  have G3 := Lib.hid G3_
  clear G3_
  have G4_ := ((H1.out.alloc 38 2 1 #[.slice none 0 0, .slice none 0 0] rfl (by decide)).zeros 2 an (by omega)).via (adrew1 _)
  try simp only [List.cons_append, List.nil_append, List.set_cons_zero, List.set_cons_succ, List.map_cons, List.map_nil, List.getD_cons_zero, List.getD_cons_succ, World.size_alloc] at G4_
  have G4 := Lib.hid G4_
  clear G4_
  have hWs : W.heap.size = w.heap.size + 1 + 1 := by rw [← HW.out]; simp
  have n1 : ¬ W.heap.size = b2 := by rw [hWs, ← HB2.out]; omega
  have n2 : ¬ W.heap.size + 1 = b2 := by rw [hWs, ← HB2.out]; omega
  clear hX hr h1 CA hal hWs
  go_enter Try.func51, Try.ntmps51
  go_wp2_with fail
  rw [HW.out, HB2.out]
  go_cut [6] from 13 to 20 (fun v6 wx => ∃ b8 ao1 c1 g, v6 = .pointer (some ⟨b8, 0, none⟩) ∧ Hid (Sp Non w wx [Pt.row ⟨38, 2, some ⟨b2, 0, none⟩, 1, 1, [.slice sa sn sc, .slice aa an ac]⟩, Pt.row ⟨38, 2, some ⟨b2 + 1, 0, none⟩, 1, 1, [.slice none 0 0, .slice none 0 0]⟩, Pt.row ⟨38, 2, some ⟨b8, 0, none⟩, 1, 1, [.slice ao1 sn c1, .slice (some ⟨g, 0, none⟩) an an]⟩, Pt.ints 3 ao1 sn c1 s, Pt.ints 2 (some ⟨g, 0, none⟩) an an (List.replicate an 0)]))
  case first =>
    go_region_held3 (fun w'' => w''.cell? ⟨b2, 0, none⟩ = some (.slice sa sn sc) ∧ w''.cell? ⟨b2, 1, none⟩ = some (.slice aa an ac)) (go_keep)
      (first
      | (go_at_call 72; (with_reducible refine Calls.mono CA0.out ?_); rintro e w2 ⟨ao1, c1, rfl, hL1, hO1, hB1⟩; have HQ := Lib.hid (G0.out.intsNew hO1 hB1 hL1.big hL1.rng); clear hL1 hO1 hB1 x0 x1; have x0 := HQ.out.cell (i := 0) rfl 0 _ rfl; have x1 := HQ.out.cell (i := 0) rfl 1 _ rfl)
      | (go_at_call 72; (with_reducible refine Calls.mono CA1.out ?_); rintro e w2 ⟨ao1, c1, rfl, hL1, hO1, hB1⟩; have HQ := Lib.hid (G1.out.intsNew hO1 hB1 hL1.big hL1.rng); clear hL1 hO1 hB1 x0 x1; have x0 := HQ.out.cell (i := 0) rfl 0 _ rfl; have x1 := HQ.out.cell (i := 0) rfl 1 _ rfl)
      | (go_at_call 72; (with_reducible refine Calls.mono CA2.out ?_); rintro e w2 ⟨ao1, c1, rfl, hL1, hO1, hB1⟩; have HQ := Lib.hid (G2.out.intsNew hO1 hB1 hL1.big hL1.rng); clear hL1 hO1 hB1 x0 x1; have x0 := HQ.out.cell (i := 0) rfl 0 _ rfl; have x1 := HQ.out.cell (i := 0) rfl 1 _ rfl; have k0 := HQ.out.cell (i := 2) rfl 0 _ rfl; have k1 := HQ.out.cell (i := 2) rfl 1 _ rfl; have k2 := HQ.out.frozen (i := 2) rfl 0; have k3 := HQ.out.frozen (i := 2) rfl 1; have k4 := (HQ.out.rlt (i := 2) rfl).1; have k5 := (HQ.out.rlt (i := 0) rfl).1)
      | (go_at_call 72; (with_reducible refine Calls.mono CA3.out ?_); rintro e w2 ⟨ao1, c1, rfl, hL1, hO1, hB1⟩; have HQ := Lib.hid (G3.out.intsNew hO1 hB1 hL1.big hL1.rng); clear hL1 hO1 hB1 x0 x1; have x0 := HQ.out.cell (i := 0) rfl 0 _ rfl; have x1 := HQ.out.cell (i := 0) rfl 1 _ rfl; have k0 := HQ.out.cell (i := 3) rfl 0 _ rfl; have k1 := HQ.out.cell (i := 3) rfl 1 _ rfl; have k2 := HQ.out.frozen (i := 3) rfl 0; have k3 := HQ.out.frozen (i := 3) rfl 1; have k4 := (HQ.out.rlt (i := 3) rfl).1; have k5 := (HQ.out.rlt (i := 0) rfl).1)
      | (go_at_call 72; (with_reducible refine Calls.mono CA4.out ?_); rintro e w2 ⟨ao1, c1, rfl, hL1, hO1, hB1⟩; have HQ := Lib.hid (G4.out.intsNew hO1 hB1 hL1.big hL1.rng); clear hL1 hO1 hB1 x0 x1; have x0 := HQ.out.cell (i := 0) rfl 0 _ rfl; have x1 := HQ.out.cell (i := 0) rfl 1 _ rfl; have k0 := HQ.out.cell (i := 2) rfl 0 _ rfl; have k1 := HQ.out.cell (i := 2) rfl 1 _ rfl; have k2 := HQ.out.frozen (i := 2) rfl 0; have k3 := HQ.out.frozen (i := 2) rfl 1; have k4 := (HQ.out.rlt (i := 2) rfl).1; have k5 := (HQ.out.rlt (i := 0) rfl).1))
    all_goals go_wp2_with fail
    all_goals go_meet
    all_goals first
      | (have hq := ((HQ.out.zeros 2 an (by omega)).alloc 38 2 1 #[.slice ao1 sn c1, .slice (some ⟨w2.heap.size, 0, none⟩) an an] rfl (by decide)).pick [0, 1, 4, 2, 3] (by decide); simp only [List.cons_append, List.nil_append, List.set_cons_zero, List.set_cons_succ, List.map_cons, List.map_nil, List.getD_cons_zero, List.getD_cons_succ, World.size_alloc, World.size_setCell] at hq; exact ⟨_, _, _, _, rfl, hq⟩)
      | (have hq := ((HQ.out.alloc 38 2 1 #[.slice ao1 sn c1, .slice (some ⟨w2.heap.size + 1, 0, none⟩) an an] rfl (by decide)).zeros 2 an (by omega)).pick [0, 1, 3, 2, 4] (by decide); simp only [List.cons_append, List.nil_append, List.set_cons_zero, List.set_cons_succ, List.map_cons, List.map_nil, List.getD_cons_zero, List.getD_cons_succ, World.size_alloc, World.size_setCell] at hq; exact ⟨_, _, _, _, rfl, hq⟩)
      | (have hq := (HQ.out.alloc 38 2 1 #[.slice ao1 sn c1, .slice (some ⟨W.heap.size, 0, none⟩) an an] rfl (by decide)).pick [0, 1, 4, 3, 2] (by decide); simp only [List.cons_append, List.nil_append, List.set_cons_zero, List.set_cons_succ, List.map_cons, List.map_nil, List.getD_cons_zero, List.getD_cons_succ, World.size_alloc, World.size_setCell] at hq; exact ⟨_, _, _, _, rfl, hq⟩)
      | (have hq := ((HQ.out.put (i := 3) rfl 0 (.slice ao1 sn c1)).put (i := 3) rfl 1 (.slice (some ⟨W.heap.size, 0, none⟩) an an)).pick [0, 1, 3, 4, 2] (by decide); simp only [List.cons_append, List.nil_append, List.set_cons_zero, List.set_cons_succ, List.map_cons, List.map_nil, List.getD_cons_zero, List.getD_cons_succ, World.size_alloc, World.size_setCell] at hq; exact ⟨_, _, _, _, rfl, hq⟩)
      | (have hq := (((HQ.out.put (i := 2) rfl 0 (.slice ao1 sn c1)).put (i := 2) rfl 1 (.slice (some ⟨w2.heap.size, 0, none⟩) an an)).zeros 2 an (by omega)).pick [0, 1, 2, 3, 4] (by decide); simp only [List.cons_append, List.nil_append, List.set_cons_zero, List.set_cons_succ, List.map_cons, List.map_nil, List.getD_cons_zero, List.getD_cons_succ, World.size_alloc, World.size_setCell] at hq; exact ⟨_, _, _, _, rfl, hq⟩)
      | (have hq := ((HQ.out.put (i := 2) rfl 0 (.slice ao1 sn c1)).put (i := 2) rfl 1 (.slice (some ⟨W.heap.size + 1, 0, none⟩) an an)).pick [0, 1, 2, 4, 3] (by decide); simp only [List.cons_append, List.nil_append, List.set_cons_zero, List.set_cons_succ, List.map_cons, List.map_nil, List.getD_cons_zero, List.getD_cons_succ, World.size_alloc, World.size_setCell] at hq; exact ⟨_, _, _, _, rfl, hq⟩)
  case rest =>
    obtain ⟨b8, ao1, c1, g, rfl, H2⟩ := hcut
    obtain ⟨U, hU⟩ : ∃ z : World, z = wc := ⟨_, rfl⟩
    subst hU
    clear CA0 CA1 CA2 CA3 CA4 G0 G1 G2 G3 G4 hmk x0 x1 n1 n2 H1
    have x1 := H2.out.cell (i := 0) rfl 1 _ rfl
    have H3 : Hid (Sp Non w U [Pt.row ⟨38, 2, some ⟨b2, 0, none⟩, 1, 1, [.slice sa sn sc, .slice aa an ac]⟩, Pt.row ⟨38, 2, some ⟨b2 + 1, 0, none⟩, 1, 1, [.slice none 0 0, .slice none 0 0]⟩, Pt.row ⟨38, 2, some ⟨b8, 0, none⟩, 1, 1, [.slice ao1 sn c1, .slice (some ⟨g, 0, none⟩) an an]⟩, Pt.ints 3 ao1 sn c1 s, Pt.row ⟨2, 1, some ⟨g, 0, none⟩, an, an, (List.replicate (an - 0) (0 : Int) ++ []).map (Value.int .i64)⟩]) := by
      show Sp _ _ _ _
      rw [Nat.sub_zero, List.append_nil]
      exact H2.out.toRow (i := 4) rfl
    clear H2
    go_wp2_with fail
    go_loopw [1, 7] (fun v1 v7 wr => ∃ (j : Nat) (q r : Int) (ds : List Int), j ≤ an ∧ -1 ≤ q ∧ q + 1 + j = an ∧ v7 = .int .i64 q ∧ v1 = .int .i64 r ∧ Hid (Sp Non w wr [Pt.row ⟨38, 2, some ⟨b2, 0, none⟩, 1, 1, [.slice sa sn sc, .slice aa an ac]⟩, Pt.row ⟨38, 2, some ⟨b2 + 1, 0, none⟩, 1, 1, [.slice none 0 0, .slice none 0 0]⟩, Pt.row ⟨38, 2, some ⟨b8, 0, none⟩, 1, 1, [.slice ao1 sn c1, .slice (some ⟨g, 0, none⟩) an an]⟩, Pt.ints 3 ao1 sn c1 s, Pt.row ⟨2, 1, some ⟨g, 0, none⟩, an, an, (List.replicate (an - j) 0 ++ ds).map (Value.int .i64)⟩]) ∧ Hid (anGo a r0 j = some (r, ds) ∧ (-9223372036854775808 ≤ r ∧ r ≤ 9223372036854775807) ∧ ∀ i, -9223372036854775808 ≤ ds.getD i 0 ∧ ds.getD i 0 ≤ 9223372036854775807)) (fun _ v7 _ => (RowKit.intOf v7 + 1).toNat)
    case atStart => exact ⟨0, (an : Int) - 1, r0, [], by omega, by omega, by omega, by go_num, rfl, H3, rfl, HR0.out, fun i => by simp [List.getD]⟩
    case round =>
      clear H3 x1
      obtain ⟨j, q, r, ds, hj, hq1, hqj, rfl, rfl, HO, HG⟩ := hrel
      by_cases hq : 0 ≤ q
      · obtain ⟨p, rfl⟩ := Int.eq_ofNat_of_zero_le hq
        have hpj : an - 1 - j = p := by omega
        have hpn : p < an := by omega
        have hpn' : (p : Int) < an := by omega
        have hats := (HX.out.below HO.out.belowN (Nat.le_refl _)).ats
        simp only at hats
        obtain ⟨b1, o1, e1, hc1⟩ := hats.at (by omega)
        subst e1
        have d1 := hc1 p hpn
        obtain ⟨b, HB⟩ : ∃ z, Hid (a.getD p 0 = z) := ⟨_, rfl⟩
        rw [HB.out] at d1
        have hbr : -9223372036854775808 ≤ b ∧ b ≤ 9223372036854775807 := by rw [← HB.out]; exact hats.rng p
        have hst : anGo a r0 (j + 1) = if b = 0 then some (0, r :: ds) else if fit (r.fdiv b) then some (r.fdiv b, r.fmod b :: ds) else none := by
          rw [anGo, HG.out.1]
          simp only
          rw [show a.length - 1 - j = p by rw [HAL.out]; exact hpj, HB.out]
        have HST := Lib.hid hst
        have HBR := Lib.hid hbr
        have CD := Lib.hid (fun w => dya_5 b r w hbr HG.out.2.1)
        have x1 := HO.out.cell (i := 0) rfl 1 _ rfl
        have hll : (List.replicate (an - j) 0 ++ ds).length = an := by rw [List.length_append, List.length_replicate, anGo_len HG.out.1]; omega
        have HSB := Lib.hid (fun (x : Int) => set_back (n := an) (j := j) (x := x) (ds := ds) (by omega))
        rw [hpj] at HSB
        have HLL := Lib.hid hll
        clear hats hc1 hst hbr hll
        go_wp2_with fail
        refine (CD.out _).mono ?_; rintro e w3 ⟨rfl, n3, hw3⟩
        have H4_ := HO.out.via (show Below wr.heap.size wr w3 from by rw [hw3]; exact adrew _ _)
        try simp only [List.cons_append, List.nil_append, List.set_cons_zero, List.set_cons_succ, List.map_cons, List.map_nil, List.getD_cons_zero, List.getD_cons_succ, World.size_alloc] at H4_
        have H4 := Lib.hid H4_
        clear H4_
        clear hw3 CD HO d1
        have y1 := H4.out.cell (i := 2) rfl 1 _ rfl
        have g0 := H4.out.cell (i := 4) rfl p (.int .i64 ((List.replicate (an - j) 0 ++ ds).getD p 0)) (getD_map_int _ _ (by rw [HLL.out]; exact hpn))
        have g1 := H4.out.frozen (i := 4) rfl p
        by_cases hb0 : b = 0
        · have hv : dyV 5 b r = r := by simp [dyV, hb0]
          have HN : Hid (Sp Non w (w3.setCell ⟨g, p, none⟩ (.int .i64 r)) [Pt.row ⟨38, 2, some ⟨b2, 0, none⟩, 1, 1, [.slice sa sn sc, .slice (some ⟨b1, o1, none⟩) an ac]⟩, Pt.row ⟨38, 2, some ⟨b2 + 1, 0, none⟩, 1, 1, [.slice none 0 0, .slice none 0 0]⟩, Pt.row ⟨38, 2, some ⟨b8, 0, none⟩, 1, 1, [.slice ao1 sn c1, .slice (some ⟨g, 0, none⟩) an an]⟩, Pt.ints 3 ao1 sn c1 s, Pt.row ⟨2, 1, some ⟨g, 0, none⟩, an, an, (List.replicate (an - (j + 1)) 0 ++ r :: ds).map (Value.int .i64)⟩]) := by
            show Sp _ _ _ _
            rw [← HSB.out r, List.map_set]
            exact H4.out.put (i := 4) rfl p (.int .i64 r)
          have HG2 : Hid (anGo a r0 (j + 1) = some (0, r :: ds) ∧ (-9223372036854775808 ≤ (0 : Int) ∧ (0 : Int) ≤ 9223372036854775807) ∧ ∀ i, -9223372036854775808 ≤ (r :: ds).getD i 0 ∧ (r :: ds).getD i 0 ≤ 9223372036854775807) := ⟨by rw [HST.out, if_pos hb0], by omega, rng_cons HG.out.2.1 HG.out.2.2⟩
          rw [hv]
          subst hb0
          clear hv hpj
          go_wp2
          go_roundw
          case rel => exact ⟨j + 1, (p : Int) - 1, 0, r :: ds, by omega, by omega, by omega, by go_num, rfl, HN, HG2⟩
          case measure => simp [RowKit.intOf] <;> omega
        · have hv : dyV 5 b r = r.fmod b := by simp [dyV, hb0]
          have hqb : (b == 0) = false := by simpa using hb0
          have hfm := fmod_spec r b hb0
          obtain ⟨d, HD⟩ : ∃ z, Hid (r.fmod b = z) := ⟨_, rfl⟩
          have hdr : -9223372036854775808 ≤ d ∧ d ≤ 9223372036854775807 := by rw [← HD.out]; have := HBR.out; omega
          have HN : Hid (Sp Non w (w3.setCell ⟨g, p, none⟩ (.int .i64 d)) [Pt.row ⟨38, 2, some ⟨b2, 0, none⟩, 1, 1, [.slice sa sn sc, .slice (some ⟨b1, o1, none⟩) an ac]⟩, Pt.row ⟨38, 2, some ⟨b2 + 1, 0, none⟩, 1, 1, [.slice none 0 0, .slice none 0 0]⟩, Pt.row ⟨38, 2, some ⟨b8, 0, none⟩, 1, 1, [.slice ao1 sn c1, .slice (some ⟨g, 0, none⟩) an an]⟩, Pt.ints 3 ao1 sn c1 s, Pt.row ⟨2, 1, some ⟨g, 0, none⟩, an, an, (List.replicate (an - (j + 1)) 0 ++ d :: ds).map (Value.int .i64)⟩]) := by
            show Sp _ _ _ _
            rw [← HSB.out d, List.map_set]
            exact H4.out.put (i := 4) rfl p (.int .i64 d)
          have hv4 : dyV 4 r b = val (r.fdiv b) ∧ dyE 4 r b = err (r.fdiv b) := by simp [dyV, dyE, hb0]
          have CQ := Lib.hid (fun w => dya_4 r b w HG.out.2.1 HBR.out)
          rw [hv4.1, hv4.2] at CQ
          rw [hv, HD.out]
          have HDR := Lib.hid hdr
          clear hv hpj hfm hdr hv4
          go_wp2_with fail
          refine (CQ.out _).mono ?_; rintro e w5 ⟨rfl, n5, hw5⟩
          have H5_ := HN.out.via (show Below _ _ w5 from by rw [hw5]; exact adrew _ _)
          try simp only [List.cons_append, List.nil_append, List.set_cons_zero, List.set_cons_succ, List.map_cons, List.map_nil, List.getD_cons_zero, List.getD_cons_succ, World.size_alloc] at H5_
          have H5 := Lib.hid H5_
          clear H5_
          clear hw5 CQ HN H4 y1 g0 g1
          cases hfit : fit (r.fdiv b)
          · have hno : anGo a r0 a.length = none := by
              have h1 : anGo a r0 (j + 1) = none := by rw [HST.out, if_neg hb0, if_neg (by rw [hfit]; simp)]
              have h2 := anGo_none h1 (an - (j + 1))
              rwa [show j + 1 + (an - (j + 1)) = a.length by rw [HAL.out]; omega] at h2
            have r1 : E = 14 := by rw [← HE.out, anE, hno]
            have r2 : S = [] := by rw [← HS.out, anS, hno]
            have r3 : A = [] := by rw [← HA.out, anA, hno]
            rw [val_not hfit, err_not hfit]
            subst r1 r2 r3
            have x2 := H5.out.cell (i := 1) rfl 0 _ rfl
            have x3 := H5.out.cell (i := 1) rfl 1 _ rfl
            have f2 := H5.out.frozen (i := 1) rfl 0
            have f3 := H5.out.frozen (i := 1) rfl 1
            have HF : Hid (∀ u v, MadeE w [] [] 14 (.returned (.tuple #[.agg #[.slice none 0 0, .slice none 0 0], .int .i64 14])) ((w5.setCell ⟨b2 + 1, 0, none⟩ u).setCell ⟨b2 + 1, 1, none⟩ v)) := fun u v => made_nil 14 ((H5.out.put (i := 1) rfl 0 u).put (i := 1) rfl 1 v).belowN
            clear hno hfit
            go_wp2
            exact bodyPost_ret (v := .tuple #[.agg #[.slice none 0 0, .slice none 0 0], .int .i64 14]) (by simp [results, Try.results51, go_sem, *]) rfl (HF.out _ _)
          · have hfr := (fit_iff _).1 hfit
            have HG2 : Hid (anGo a r0 (j + 1) = some (r.fdiv b, d :: ds) ∧ (-9223372036854775808 ≤ r.fdiv b ∧ r.fdiv b ≤ 9223372036854775807) ∧ ∀ i, -9223372036854775808 ≤ (d :: ds).getD i 0 ∧ (d :: ds).getD i 0 ≤ 9223372036854775807) := ⟨by rw [HST.out, if_neg hb0, if_pos hfit, HD.out], hfr, rng_cons HDR.out HG.out.2.2⟩
            rw [val_of hfit, err_of hfit]
            obtain ⟨f, HF⟩ : ∃ z, Hid (r.fdiv b = z) := ⟨_, rfl⟩
            rw [HF.out] at HG2 ⊢
            clear hfr hfit
            go_wp2
            go_roundw
            case rel => exact ⟨j + 1, (p : Int) - 1, f, d :: ds, by omega, by omega, by omega, by go_num, rfl, H5, HG2⟩
            case measure => simp [RowKit.intOf] <;> omega
      · have hge : ¬ (0 ≤ q) := hq
        obtain rfl : j = an := by omega
        have hyes : anGo a r0 a.length = some (r, ds) := by rw [HAL.out]; exact HG.out.1
        have r1 : E = 0 := by rw [← HE.out, anE, hyes]
        have r2 : S = s := by rw [← HS.out, anS, hyes]
        have r3 : A = ds := by rw [← HA.out, anA, hyes]
        have hsp := HO.out
        rw [Nat.sub_self, List.replicate_zero, List.nil_append] at hsp
        have h5 := ((hsp.toInts (i := 4) (zs := ds) rfl (by omega) HG.out.2.2).arrOf (i := 3) (j := 4) rfl (by decide) rfl)
        have H5_ := h5
        try simp only [List.cons_append, List.nil_append, List.set_cons_zero, List.set_cons_succ, List.map_cons, List.map_nil, List.getD_cons_zero, List.getD_cons_succ, World.size_alloc] at H5_
        have H5 := Lib.hid H5_
        clear H5_
        have x0 := H5.out.cell (i := 2) rfl 0 _ rfl
        have x1 := H5.out.cell (i := 2) rfl 1 _ rfl
        have x2 := H5.out.cell (i := 1) rfl 0 _ rfl
        have x3 := H5.out.cell (i := 1) rfl 1 _ rfl
        have f2 := H5.out.frozen (i := 1) rfl 0
        have f3 := H5.out.frozen (i := 1) rfl 1
        subst r1 r2 r3
        have HF : Hid (∀ u v, MadeE w S A 0 (.returned (.tuple #[.agg #[.slice ao1 sn c1, .slice (some ⟨g, 0, none⟩) j j], .int .i64 0])) ((wr.setCell ⟨b2 + 1, 0, none⟩ u).setCell ⟨b2 + 1, 1, none⟩ v)) := fun u v => ((H5.out.put (i := 1) rfl 0 u).put (i := 1) rfl 1 v).madeE (i := 4) (B := ⟨ao1, sn, c1, some ⟨g, 0, none⟩, j, j, S, A⟩) rfl 0
        clear h5 hsp H5 hyes
        go_wp2
        exact bodyPost_ret (v := .tuple #[.agg #[.slice ao1 sn c1, .slice (some ⟨g, 0, none⟩) j j], .int .i64 0]) (by simp [results, Try.results51, go_sem, *]) rfl (HF.out _ _)
end Go.Proofs.Ytoippfoeghjdoaa
namespace Go.Proofs.Ytoippfoeghjdoaa
open Go.RowKit Go.Lib
set_option linter.unusedVariables false
set_option linter.unusedSimpArgs false
theorem and_one_i64 (E : Int) : bits BinOp.and IntKind.i64 E 1 = E % 2 := by
  unfold bits
  simp
  rw [show IntKind.i64.bits = 64 from rfl, show 1 % 2 ^ 64 = 1 from rfl, Nat.and_one_is_mod, IntKind.wrap_i64]
  omega
attribute [local go_sem] alloc_drewN setCell_drewN
attribute [local go_sem] and_one_i64
/-- How many binary digits some numbers need; each one's digits. -/
def biW (a : List Int) : Int := a.foldl (fun w n => max (max w 1) (Lib.bitLen n.natAbs : Int)) 0
def biD (w : Nat) (n : Int) (k : Nat) : List Int := (List.range k).map fun j => n / 2 ^ (w - 1 - j) % 2
def biE (s a : List Int) : Int := if mayE (s ++ [biW a]) = 0 then 0 else 17
def biS (s a : List Int) : List Int := if mayE (s ++ [biW a]) = 0 then s ++ [biW a] else []
def biA (s a : List Int) : List Int := if mayE (s ++ [biW a]) = 0 then (a.map fun n => biD (biW a).toNat n (biW a).toNat).flatten else []
theorem biW_snoc {a : List Int} {k : Nat} (h : k < a.length) : biW (a.take (k + 1)) = max (max (biW (a.take k)) 1) (Lib.bitLen (a.getD k 0).natAbs : Int) := by
  rw [take_snoc h]; simp [biW]
theorem bitLen_64 {n : Int} (h : -9223372036854775808 ≤ n ∧ n ≤ 9223372036854775807) : (Lib.bitLen n.natAbs : Int) ≤ 64 := by
  have := Lib.bitLen_le n.natAbs 64 (by omega) (by omega)
  omega
theorem biW_bd {a : List Int} (h : ∀ i, -9223372036854775808 ≤ a.getD i 0 ∧ a.getD i 0 ≤ 9223372036854775807) : ∀ k, k ≤ a.length → 0 ≤ biW (a.take k) ∧ biW (a.take k) ≤ 64
  | 0, _ => by simp [biW]
  | k + 1, hk => by
    have h1 := biW_bd h k (by omega)
    have h2 := bitLen_64 (h k)
    rw [biW_snoc (by omega)]
    omega
theorem biD_rng (w : Nat) (n : Int) (k i : Nat) : -9223372036854775808 ≤ (biD w n k).getD i 0 ∧ (biD w n k).getD i 0 ≤ 9223372036854775807 := by
  unfold biD
  by_cases h : i < k
  · simp only [List.getD, List.getElem?_map, List.getElem?_range h, Option.map_some, Option.getD_some]
    omega
  · simp [List.getD, List.getElem?_eq_none (show (List.range k).length ≤ i by simp; omega)]
theorem bit_rng (n : Int) (p : Nat) : -9223372036854775808 ≤ n / 2 ^ p % 2 ∧ n / 2 ^ p % 2 ≤ 9223372036854775807 := by omega
set_option maxRecDepth 100000 in
set_option maxHeartbeats 3200000 in
theorem binary_any {w : World} {Y : Ar} (hY : Y.Is w) (hN : Y.an ≤ 4096) (hsn : Y.sn ≤ 8) :
    Calls Try.prog 47 #[Y.v] w (MadeE w (biS Y.s Y.a) (biA Y.s Y.a) (biE Y.s Y.a)) := by
  obtain ⟨sa, sn, sc, aa, an, ac, s, a⟩ := Y
  simp only [Ar.v]
  simp only at hN hsn
  obtain ⟨W, HW⟩ : ∃ z, Hid ((w.alloc (.cells #[.slice sa sn sc, .slice aa an ac] 38)).alloc (.cells #[.slice none 0 0, .slice none 0 0] 38) = z) := ⟨_, rfl⟩
  have h0 := ((Sp.start Non w).alloc 38 2 1 #[.slice sa sn sc, .slice aa an ac] rfl (by decide)).alloc 38 2 1 #[.slice none 0 0, .slice none 0 0] rfl (by decide)
  rw [HW.out] at h0
  have H1_ := h0
  try simp only [List.cons_append, List.nil_append, List.set_cons_zero, List.set_cons_succ, List.map_cons, List.map_nil, List.getD_cons_zero, List.getD_cons_succ, World.size_alloc] at H1_
  have H1 := Lib.hid H1_
  clear H1_
  obtain ⟨b1, HB1⟩ : ∃ z, Hid (w.heap.size = z) := ⟨_, rfl⟩
  rw [HB1.out] at H1
  have HY := Lib.hid hY
  have HAL := Lib.hid hY.ats.len
  have HRG := Lib.hid hY.ats.rng
  simp only at HAL HRG
  obtain ⟨E, HE⟩ : ∃ z, Hid (biE s a = z) := ⟨_, rfl⟩
  obtain ⟨S, HS⟩ : ∃ z, Hid (biS s a = z) := ⟨_, rfl⟩
  obtain ⟨A, HA⟩ : ∃ z, Hid (biA s a = z) := ⟨_, rfl⟩
  rw [HE.out, HS.out, HA.out]
  have x1 := H1.out.cell (i := 0) rfl 1 _ rfl
  clear h0 hY
  go_enter Try.func47, Try.ntmps47
  go_upto_region 1 with fail
  rw [HW.out, HB1.out]
  go_wp2_with fail
  clear x1
  go_loopw [4, 15] (fun v4 v15 wr => ∃ (k : Nat) (z : Int), k ≤ an ∧ v15 = .int .i64 k ∧ v4 = .int .i64 z ∧ 0 ≤ z ∧ z ≤ 64 ∧ wr = W ∧ Hid (z = biW (a.take k))) (fun _ v15 _ => an - (RowKit.intOf v15).toNat)
  case atStart => exact ⟨0, 0, by omega, rfl, rfl, by omega, by omega, rfl, rfl⟩
  case round =>
    obtain ⟨k, z, hk, rfl, rfl, hz0, hz1, rfl, HZ⟩ := hrel
    by_cases hlt : k < an
    · have hlt' : (k : Int) < an := by omega
      have hats := (HY.out.below H1.out.belowN (Nat.le_refl _)).ats
      simp only at hats
      obtain ⟨g1, o1, e1, hc1⟩ := hats.at (by omega)
      subst e1
      have d1 := hc1 k hlt
      have hsn2 := biW_snoc (a := a) (k := k) (by rw [HAL.out]; exact hlt)
      have hnr := HRG.out k
      have hb64 := bitLen_64 hnr
      obtain ⟨n, HN⟩ : ∃ z, Hid (a.getD k 0 = z) := ⟨_, rfl⟩
      rw [HN.out] at d1 hsn2 hnr hb64
      have CS := Lib.hid (fun w => dsize_any n w hnr)
      have CB := Lib.hid (fun w => Try.bits_Len64 (n.natAbs : Int) w (by omega) (by omega))
      simp only [Int.toNat_natCast] at CB
      obtain ⟨l, HL⟩ : ∃ z, Hid (Lib.bitLen n.natAbs = z) := ⟨_, rfl⟩
      rw [HL.out] at CB hsn2 hb64
      rw [← HZ.out] at hsn2
      have HZ2 := Lib.hid hsn2.symm
      clear hats hc1 hsn2 hnr
      go_wp2_with fail
      refine (CS.out _).mono ?_; rintro e w' ⟨rfl, hw'⟩
      have hw'' := hw'.symm
      subst hw''
      clear hw'
      go_wp2_with fail
      refine (CB.out _).mono ?_; rintro e w' ⟨rfl, hw'⟩
      have hw'' := hw'.symm
      subst hw''
      clear hw' CS CB
      go_wp2_with fail
      go_roundw
      case rel => exact ⟨k + 1, max (max z 1) l, by omega, by go_num, intv (by simp only [Int.max_def]; repeat' split <;> omega), by omega, by omega, trivial, HZ2⟩
      case measure => simp [RowKit.intOf] <;> omega
    · have hge : ¬ ((k : Int) < an) := by omega
      obtain rfl : k = an := by omega
      have hzw : z = biW a := by have := HZ.out; rwa [List.take_of_length_le (by rw [HAL.out]; exact Nat.le_refl _)] at this
      obtain ⟨N, hN2⟩ : ∃ N : Nat, z = N := ⟨z.toNat, by omega⟩
      subst hN2
      have hE : E = if mayE (s ++ [(N : Int)]) = 0 then 0 else 17 := by rw [← HE.out, biE, ← hzw]
      have hS : S = if mayE (s ++ [(N : Int)]) = 0 then s ++ [(N : Int)] else [] := by rw [← HS.out, biS, ← hzw]
      have hA : A = if mayE (s ++ [(N : Int)]) = 0 then (a.map fun n => biD N n N).flatten else [] := by rw [← HA.out, biA, ← hzw]; simp only [Int.toNat_natCast]
      have HEE := Lib.hid (And.intro hE (And.intro hS hA))
      have CC0 := clone_any (HY.out.below H1.out.belowN (Nat.le_refl _)).shp
      simp only at CC0
      have CC := Lib.hid CC0
      have x0 := H1.out.cell (i := 0) rfl 0 _ rfl
      obtain ⟨i0, hi0, hz0', hz1', hz2'⟩ := info_parts (P := Try.prog) (e := 3) (z := .int .i64 0) (size := 1) (bytes := 8) (by kernel_rfl)
      have hb1 : (sn + 1) * 8 ≤ 140737488351232 := by omega
      clear CC0 hzw hE hS hA HE HS HA HZ
      go_wp2_with fail
      refine CC.out.mono ?_; rintro e w3 ⟨lo, lc, rfl, hL, hO, hB⟩
      have H3_ := H1.out.intsNew hO hB hL.big hL.rng
      try simp only [List.cons_append, List.nil_append, List.set_cons_zero, List.set_cons_succ, List.map_cons, List.map_nil, List.getD_cons_zero, List.getD_cons_succ, World.size_alloc] at H3_
      have H3 := Lib.hid H3_
      clear H3_
      have HV := Lib.hid (H3.out.via (abal w3 (.cells #[.int .i64 N] 3)))
      clear hL hO hB CC x0
      go_wp2_with (at_builtin; refine Sp.wpList_loc (i := 2) HV.out rfl _ _ 25 rfl 3 i0 Try.underlying25 hi0 hz0' hz1' hz2' rfl rfl rfl (ls_lit1 w3 _ (by omega)) hb1 ?_)
      intro bo d w4 h4
      have H4 := Lib.hid h4
      have CM := Lib.hid (may_any (H4.out.ls (i := 2) rfl))
      clear h4 HV H3 hi0 hz0' hz1' hz2' hb1 H1
      by_cases hm : mayE (s ++ [(N : Int)]) = 0
      · have r1 : E = 0 := by rw [HEE.out.1, if_pos hm]
        have r2 : S = s ++ [(N : Int)] := by rw [HEE.out.2.1, if_pos hm]
        have r3 : A = (a.map fun n => biD N n N).flatten := by rw [HEE.out.2.2, if_pos hm]
        have HR := Lib.hid (And.intro r2 r3)
        rw [hm] at CM
        subst r1
        clear hm r2 r3 HEE
        go_wp2_with fail
        refine CM.out.mono ?_; rintro e w' ⟨rfl, hw'⟩
        have hw'' := hw'.symm
        subst hw''
        clear hw' CM
        have H5_ := (H4.out.alloc 38 2 1 #[.slice bo (sn + 1) d, .slice none 0 0] rfl (by decide)).intsNew (E := 2) (zs := []) (World.ownsRow_nil _ _ _ _) (Below.refl _ _) (by omega) (fun i => by simp [List.getD])
        try simp only [List.cons_append, List.nil_append, List.set_cons_zero, List.set_cons_succ, List.map_cons, List.map_nil, List.getD_cons_zero, List.getD_cons_succ, World.size_alloc] at H5_
        have H5 := Lib.hid H5_
        clear H5_
        obtain ⟨b8, HB8⟩ : ∃ z, Hid (w4.heap.size = z) := ⟨_, rfl⟩
        rw [HB8.out] at H5
        have x1 := H5.out.cell (i := 0) rfl 1 _ rfl
        clear H4
        go_wp2_with fail
        clear x1
        rw [HB8.out]
        go_loopw [40] (fun v40 wr => ∃ (m : Nat) (ao : Option Addr) (c : Nat), m ≤ k ∧ v40 = .int .i64 m ∧ Hid (Sp Non w wr [Pt.row ⟨38, 2, some ⟨b1, 0, none⟩, 1, 1, [.slice sa sn sc, .slice aa k ac]⟩, Pt.row ⟨38, 2, some ⟨b1 + 1, 0, none⟩, 1, 1, [.slice none 0 0, .slice none 0 0]⟩, Pt.ints 3 bo (sn + 1) d (s ++ [(N : Int)]), Pt.row ⟨38, 2, some ⟨b8, 0, none⟩, 1, 1, [.slice bo (sn + 1) d, .slice ao (m * N) c]⟩, Pt.ints 2 ao (m * N) c (((a.take m).map fun n => biD N n N).flatten)])) (fun v40 _ => k - (RowKit.intOf v40).toNat)
        case atStart => exact ⟨0, none, 0, by omega, rfl, by rw [Nat.zero_mul]; exact H5⟩
        case round =>
          clear H5
          obtain ⟨m, ao, c, hm, rfl, HO⟩ := hrel
          by_cases hlt : m < k
          · have hlt' : (m : Int) < k := by omega
            have hats := (HY.out.below HO.out.belowN (Nat.le_refl _)).ats
            simp only at hats
            obtain ⟨g1, o1, e1, hc1⟩ := hats.at (by omega)
            subst e1
            have d1 := hc1 m hlt
            obtain ⟨n, HN⟩ : ∃ z, Hid (a.getD m 0 = z) := ⟨_, rfl⟩
            rw [HN.out] at d1
            have hmN : m * N ≤ 262144 := by
              have h1 := Nat.mul_le_mul (show m ≤ 4096 by omega) (show N ≤ 64 by omega)
              omega
            have HFN : Hid (((a.take (m + 1)).map fun n => biD N n N).flatten = ((a.take m).map fun n => biD N n N).flatten ++ biD N n N) := by
              show _ = _
              rw [take_snoc (by rw [HAL.out]; exact hlt), HN.out, List.map_append, List.flatten_append]
              simp
            clear hats hc1
            go_wp2_with fail
            go_loopw [11] (fun v11 wx => ∃ (j : Nat) (q : Int) (ao' : Option Addr) (c' : Nat), j ≤ N ∧ -1 ≤ q ∧ q + 1 + j = N ∧ v11 = .int .i64 q ∧ Hid (Sp Non w wx [Pt.row ⟨38, 2, some ⟨b1, 0, none⟩, 1, 1, [.slice sa sn sc, .slice (some ⟨g1, o1, none⟩) k ac]⟩, Pt.row ⟨38, 2, some ⟨b1 + 1, 0, none⟩, 1, 1, [.slice none 0 0, .slice none 0 0]⟩, Pt.ints 3 bo (sn + 1) d (s ++ [(N : Int)]), Pt.row ⟨38, 2, some ⟨b8, 0, none⟩, 1, 1, [.slice bo (sn + 1) d, .slice ao' (m * N + j) c']⟩, Pt.ints 2 ao' (m * N + j) c' (((a.take m).map fun n => biD N n N).flatten ++ biD N n j)])) (fun v11 _ => (RowKit.intOf v11 + 1).toNat)
            case atStart => exact ⟨0, (N : Int) - 1, ao, c, by omega, by omega, by omega, by go_num, by simpa [biD] using HO⟩
            case round =>
              clear HO
              obtain ⟨j, q, ao', c', hj, hq1, hqj, rfl, HM⟩ := hrel
              by_cases hq : 0 ≤ q
              · obtain ⟨p, rfl⟩ := Int.eq_ofNat_of_zero_le hq
                have hp64 : (p : Int) ≤ 64 := by omega
                obtain ⟨i0, hi0, hza, hzb, hzc⟩ := info_parts (P := Try.prog) (e := 2) (z := .int .i64 0) (size := 1) (bytes := 8) (by kernel_rfl)
                have hbr := bit_rng n p
                have HBD : Hid (biD N n (j + 1) = biD N n j ++ [n / 2 ^ p % 2]) := by
                  show _ = _
                  unfold biD
                  rw [List.range_succ, List.map_append, List.map_singleton, show N - 1 - j = p by omega]
                have HV2 := Lib.hid ((HM.out.via (abal wr (.cells #[.int .i64 (n / 2 ^ p % 2)] 2))).via (adrew1 _))
                have LL := Lib.hid ((ls_lit1 wr 2 hbr).via (adrew1 _))
                have hb1 : (m * N + j + 1) * 8 ≤ 140737488351232 := by omega
                have y1 := HM.out.cell (i := 3) rfl 1 _ rfl
                have hlb := (HM.out.rlt (i := 3) rfl).1
                have n1 : ¬ b8 = wr.heap.size := by omega
                have n2 : ¬ wr.heap.size = b8 := by omega
                clear hbr
                go_wp2_with fail
                go_region_law (first
                  | (refine Sp.step_loc HV2.out rfl _ _ 28 (by rfl) 2 i0 Try.underlying28 hi0 hza hzb hzc (i := 4) rfl (by rfl) (by rfl) LL.out hb1 ?_; intro b9 d9 w9 h9; have q1 := h9.cell (i := 3) rfl 1 _ rfl; have q2 := h9.frozen (i := 3) rfl 1))
                all_goals
                  have H10 : Hid (Sp Non w (w9.setCell ⟨b8, 1, none⟩ (.slice b9 (m * N + j + 1) d9)) [Pt.row ⟨38, 2, some ⟨b1, 0, none⟩, 1, 1, [.slice sa sn sc, .slice (some ⟨g1, o1, none⟩) k ac]⟩, Pt.row ⟨38, 2, some ⟨b1 + 1, 0, none⟩, 1, 1, [.slice none 0 0, .slice none 0 0]⟩, Pt.ints 3 bo (sn + 1) d (s ++ [(N : Int)]), Pt.row ⟨38, 2, some ⟨b8, 0, none⟩, 1, 1, [.slice bo (sn + 1) d, .slice b9 (m * N + (j + 1)) d9]⟩, Pt.ints 2 b9 (m * N + (j + 1)) d9 (((a.take m).map fun n => biD N n N).flatten ++ biD N n (j + 1))]) := by
                    show Sp _ _ _ _
                    rw [HBD.out, ← List.append_assoc]
                    exact h9.put (i := 3) rfl 1 (.slice b9 (m * N + j + 1) d9)
                  clear h9 q1 q2
                  go_wp2
                  go_roundw
                  case rel => exact ⟨j + 1, (p : Int) - 1, b9, d9, by omega, by omega, by omega, by go_num, H10⟩
                  case measure => simp [RowKit.intOf] <;> omega
              · obtain rfl : j = N := by omega
                have HJ : Hid (Sp Non w wr [Pt.row ⟨38, 2, some ⟨b1, 0, none⟩, 1, 1, [.slice sa sn sc, .slice (some ⟨g1, o1, none⟩) k ac]⟩, Pt.row ⟨38, 2, some ⟨b1 + 1, 0, none⟩, 1, 1, [.slice none 0 0, .slice none 0 0]⟩, Pt.ints 3 bo (sn + 1) d (s ++ [(j : Int)]), Pt.row ⟨38, 2, some ⟨b8, 0, none⟩, 1, 1, [.slice bo (sn + 1) d, .slice ao' ((m + 1) * j) c']⟩, Pt.ints 2 ao' ((m + 1) * j) c' (((a.take (m + 1)).map fun n => biD j n j).flatten)]) := by
                  show Sp _ _ _ _
                  rw [HFN.out, Nat.succ_mul]
                  exact HM.out
                clear HM
                go_wp2
                go_roundw
                case rel => exact ⟨m + 1, ao', c', by omega, by go_num, HJ⟩
                case measure => simp [RowKit.intOf] <;> omega
          · obtain rfl : m = k := by omega
            have hge2 : ¬ ((m : Int) < m) := by omega
            have hsp := HO.out
            rw [List.take_of_length_le (by rw [HAL.out]; exact Nat.le_refl _), ← HR.out.1, ← HR.out.2] at hsp
            have h7 := hsp.arrOf (i := 2) (j := 4) rfl (by decide) rfl
            have H7_ := h7
            try simp only [List.cons_append, List.nil_append, List.set_cons_zero, List.set_cons_succ, List.map_cons, List.map_nil, List.getD_cons_zero, List.getD_cons_succ, World.size_alloc] at H7_
            have H7 := Lib.hid H7_
            clear H7_
            have x2 := H7.out.cell (i := 1) rfl 0 _ rfl
            have x3 := H7.out.cell (i := 1) rfl 1 _ rfl
            have y0 := H7.out.cell (i := 3) rfl 0 _ rfl
            have y1 := H7.out.cell (i := 3) rfl 1 _ rfl
            have f2 := H7.out.frozen (i := 1) rfl 0
            have f3 := H7.out.frozen (i := 1) rfl 1
            have HF : Hid (∀ u v, MadeE w S A 0 (.returned (.tuple #[.agg #[.slice bo (sn + 1) d, .slice ao (m * N) c], .int .i64 0])) ((wr.setCell ⟨b1 + 1, 0, none⟩ u).setCell ⟨b1 + 1, 1, none⟩ v)) := fun u v => ((H7.out.put (i := 1) rfl 0 u).put (i := 1) rfl 1 v).madeE (i := 4) (B := ⟨bo, sn + 1, d, ao, m * N, c, S, A⟩) rfl 0
            clear hsp h7 H7 HR
            go_wp2
            exact bodyPost_ret (v := .tuple #[.agg #[.slice bo (sn + 1) d, .slice ao (m * N) c], .int .i64 0]) (by simp [results, Try.results47, go_sem, *]) rfl (HF.out _ _)
      · have r1 : E = 17 := by rw [HEE.out.1, if_neg hm]
        have r2 : S = [] := by rw [HEE.out.2.1, if_neg hm]
        have r3 : A = [] := by rw [HEE.out.2.2, if_neg hm]
        subst r1 r2 r3
        obtain ⟨e, he⟩ : ∃ z, z = mayE (s ++ [(N : Int)]) := ⟨_, rfl⟩
        rw [← he] at CM hm
        have q0 : (e != 0) = true := by simpa using hm
        have x2 := H4.out.cell (i := 1) rfl 0 _ rfl
        have x3 := H4.out.cell (i := 1) rfl 1 _ rfl
        have f2 := H4.out.frozen (i := 1) rfl 0
        have f3 := H4.out.frozen (i := 1) rfl 1
        have HF : Hid (∀ u v, MadeE w [] [] 17 (.returned (.tuple #[.agg #[.slice none 0 0, .slice none 0 0], .int .i64 17])) ((w4.setCell ⟨b1 + 1, 0, none⟩ u).setCell ⟨b1 + 1, 1, none⟩ v)) := fun u v => made_nil 17 ((H4.out.put (i := 1) rfl 0 u).put (i := 1) rfl 1 v).belowN
        clear he hm HEE H4
        go_wp2_with fail
        refine CM.out.mono ?_; rintro e w' ⟨rfl, hw'⟩
        have hw'' := hw'.symm
        subst hw''
        go_wp2
        exact bodyPost_ret (v := .tuple #[.agg #[.slice none 0 0, .slice none 0 0], .int .i64 17]) (by simp [results, Try.results47, go_sem, *]) rfl (HF.out _ _)
end Go.Proofs.Ytoippfoeghjdoaa

/- Contracts of the document's Bad and Monad of layer 5 (abacusref5). Contract of the document's Monad of layer 5 (abacusref5). Contract of the document's Agree (abacusref2) and Dyad of layer 5 (abacusref5). -/
import Derived.Test.YtdedbfbkakofgaaAtomFreshM28
import Derived.Test.YtdedbfbkakofgaaAtomFreshM8
import Derived.Test.YtdedbfbkakofgaaAtomFreshM24
namespace Go.Proofs.Ytdedbfbkakofgaa
open Go.RowKit Go.Lib
set_option linter.unusedVariables false
set_option linter.unusedSimpArgs false
attribute [local go_sem] alloc_drewN setCell_drewN

/-- What Bad tells of one array, of two. -/
def badV (op v m : Int) : Int := if m ≠ 0 then 1 else refV op v
set_option maxRecDepth 100000 in
set_option maxHeartbeats 1600000 in
theorem bad_one {w : World} {Y : Ar} (hY : Y.Is w) {B : Nat} (hB : B < w.heap.size) (hc0 : w.cell? ⟨B, 0, none⟩ = some (.slice Y.sa Y.sn Y.sc)) (hc1 : w.cell? ⟨B, 1, none⟩ = some (.slice Y.aa Y.an Y.ac)) (op : Int) :
    Calls Try.prog 123 #[.int .i64 op, .int .i64 1, .slice (some ⟨B, 0, none⟩) 1 1] w (RetB w (.int .i64 (badV op 1 (amE Y.s Y.a)))) := by
  have CM := Lib.hid (rmay3_any hY)
  have CR := Lib.hid (fun w1 => rRow_any op w1)
  have CH := Lib.hid (fun w1 => rhas_any op 1 w1)
  obtain ⟨ta, tn, tc, ba, bn, bc, t, b⟩ := Y
  simp only [Ar.v] at CM hc0 hc1 ⊢
  have hrr := (ref_row op).1
  obtain ⟨m, HM⟩ : ∃ z, Hid (amE t b = z) := ⟨_, rfl⟩
  obtain ⟨q, HQ⟩ : ∃ z, Hid (rowB op = z) := ⟨_, rfl⟩
  obtain ⟨g, HG⟩ : ∃ z, Hid (hasV op 1 = z) := ⟨_, rfl⟩
  rw [HM.out] at CM ⊢
  rw [HQ.out] at CR hrr
  rw [HG.out] at CH hrr
  obtain ⟨r, HR⟩ : ∃ z, Hid (badV op 1 m = z) := ⟨_, rfl⟩
  rw [HR.out]
  clear hY hB
  by_cases hm : m = 0
  · subst hm
    have hr1 : r = refV op 1 := by rw [← HR.out]; rfl
    cases q
    · have HF : Hid (r = 1) := by show _ = _; rw [hr1, hrr]; rfl
      clear hr1 hrr
      go_enter Try.func123, Try.ntmps123
      go_wp2_with fail
      refine wp_loop_rounds 2 ?_
      rw [rounds_succ]
      go_wp2_with fail
      refine CM.out.mono ?_; rintro e w1 ⟨rfl, hb1⟩
      have HV1 := Lib.hid hb1
      clear hb1 hc0 hc1
      go_wp2_with fail
      rw [rounds_succ]
      go_wp2_with fail
      refine (CR.out w1).mono ?_; rintro e w2 ⟨rfl, n2, hw2⟩
      have HV2 : Hid (Below w.heap.size w w2) := by show Below _ _ _; rw [hw2]; exact abvia HV1.out (adrew _ _)
      clear hw2
      go_wp2
      go_ret
      exact RetB.mk (intv HF.out.symm) HV2.out
    · cases g
      · have HF : Hid (r = 16) := by show _ = _; rw [hr1, hrr]; rfl
        clear hr1 hrr
        go_enter Try.func123, Try.ntmps123
        go_wp2_with fail
        refine wp_loop_rounds 2 ?_
        rw [rounds_succ]
        go_wp2_with fail
        refine CM.out.mono ?_; rintro e w1 ⟨rfl, hb1⟩
        have HV1 := Lib.hid hb1
        clear hb1 hc0 hc1
        go_wp2_with fail
        rw [rounds_succ]
        go_wp2_with fail
        refine (CR.out w1).mono ?_; rintro e w2 ⟨rfl, n2, hw2⟩
        have HV2 : Hid (Below w.heap.size w w2) := by show Below _ _ _; rw [hw2]; exact abvia HV1.out (adrew _ _)
        clear hw2
        go_wp2_with fail
        refine (CH.out w2).mono ?_; rintro e w3 ⟨rfl, n3, hw3⟩
        have HV3 : Hid (Below w.heap.size w w3) := by show Below _ _ _; rw [hw3]; exact abvia HV2.out (adrew _ _)
        clear hw3
        go_wp2
        go_ret
        exact RetB.mk (intv HF.out.symm) HV3.out
      · have HF : Hid (r = 0) := by show _ = _; rw [hr1, hrr]; rfl
        clear hr1 hrr
        go_enter Try.func123, Try.ntmps123
        go_wp2_with fail
        refine wp_loop_rounds 2 ?_
        rw [rounds_succ]
        go_wp2_with fail
        refine CM.out.mono ?_; rintro e w1 ⟨rfl, hb1⟩
        have HV1 := Lib.hid hb1
        clear hb1 hc0 hc1
        go_wp2_with fail
        rw [rounds_succ]
        go_wp2_with fail
        refine (CR.out w1).mono ?_; rintro e w2 ⟨rfl, n2, hw2⟩
        have HV2 : Hid (Below w.heap.size w w2) := by show Below _ _ _; rw [hw2]; exact abvia HV1.out (adrew _ _)
        clear hw2
        go_wp2_with fail
        refine (CH.out w2).mono ?_; rintro e w3 ⟨rfl, n3, hw3⟩
        have HV3 : Hid (Below w.heap.size w w3) := by show Below _ _ _; rw [hw3]; exact abvia HV2.out (adrew _ _)
        clear hw3
        go_wp2
        go_ret
        exact RetB.mk (intv HF.out.symm) HV3.out
  · have HF : Hid (r = 1) := by show _ = _; rw [← HR.out]; unfold badV; rw [if_pos hm]
    have hm' : (m != 0) = true := by simpa using hm
    clear hrr hm
    go_enter Try.func123, Try.ntmps123
    go_wp2_with fail
    refine wp_loop_rounds 2 ?_
    rw [rounds_succ]
    go_wp2_with fail
    refine CM.out.mono ?_; rintro e w1 ⟨rfl, hb1⟩
    have HV1 := Lib.hid hb1
    clear hb1 hc0 hc1
    go_wp2
    go_ret
    exact RetB.mk (intv HF.out.symm) HV1.out
set_option maxRecDepth 100000 in
set_option maxHeartbeats 1600000 in
theorem bad_two {w : World} {X Y : Ar} (hX : X.Is w) (hY : Y.Is w) {B : Nat} (hB : B < w.heap.size) (hc0 : w.cell? ⟨B, 0, none⟩ = some (.slice X.sa X.sn X.sc)) (hc1 : w.cell? ⟨B, 1, none⟩ = some (.slice X.aa X.an X.ac))
    (hc2 : w.cell? ⟨B, 2, none⟩ = some (.slice Y.sa Y.sn Y.sc)) (hc3 : w.cell? ⟨B, 3, none⟩ = some (.slice Y.aa Y.an Y.ac)) (op : Int) :
    Calls Try.prog 123 #[.int .i64 op, .int .i64 2, .slice (some ⟨B, 0, none⟩) 2 2] w (RetB w (.int .i64 (badV op 2 (if amE X.s X.a ≠ 0 then amE X.s X.a else amE Y.s Y.a)))) := by
  have CX := Lib.hid (rmay3_any hX)
  have CY := Lib.hid (fun w1 (hb : Below w.heap.size w w1) => rmay3_any (hY.via hb))
  have CR := Lib.hid (fun w1 => rRow_any op w1)
  have CH := Lib.hid (fun w1 => rhas_any op 2 w1)
  obtain ⟨sa, sn, sc, aa, an, ac, s, a⟩ := X
  obtain ⟨ta, tn, tc, ba, bn, bc, t, b⟩ := Y
  simp only [Ar.v] at CX CY hc0 hc1 hc2 hc3 ⊢
  have hrr := (ref_row op).2
  obtain ⟨k, HK⟩ : ∃ z, Hid (amE s a = z) := ⟨_, rfl⟩
  obtain ⟨m, HM⟩ : ∃ z, Hid (amE t b = z) := ⟨_, rfl⟩
  obtain ⟨q, HQ⟩ : ∃ z, Hid (rowB op = z) := ⟨_, rfl⟩
  obtain ⟨g, HG⟩ : ∃ z, Hid (hasV op 2 = z) := ⟨_, rfl⟩
  rw [HK.out] at CX ⊢
  rw [HM.out] at CY ⊢
  rw [HQ.out] at CR hrr
  rw [HG.out] at CH hrr
  obtain ⟨r, HR⟩ : ∃ z, Hid (badV op 2 (if k ≠ 0 then k else m) = z) := ⟨_, rfl⟩
  rw [HR.out]
  have HBC : Hid (∀ w1, Below w.heap.size w w1 → w1.cell? ⟨B, 2, none⟩ = some (.slice ta tn tc) ∧ w1.cell? ⟨B, 3, none⟩ = some (.slice ba bn bc)) := fun w1 hb => ⟨(hb.cell (p := ⟨B, 2, none⟩) hB).trans hc2, (hb.cell (p := ⟨B, 3, none⟩) hB).trans hc3⟩
  clear hX hY hB
  by_cases hk : k = 0
  case neg =>
    have HF : Hid (r = 1) := by show _ = _; rw [← HR.out]; unfold badV; rw [if_pos hk, if_pos hk]
    have hm' : (k != 0) = true := by simpa using hk
    clear hrr hk
    go_enter Try.func123, Try.ntmps123
    go_wp2_with fail
    refine wp_loop_rounds 3 ?_
    rw [rounds_succ]
    go_wp2_with fail
    refine CX.out.mono ?_; rintro e w1 ⟨rfl, hb1⟩
    have HV1 := Lib.hid hb1
    clear hb1 hc0 hc1 hc2 hc3
    go_wp2
    go_ret
    exact RetB.mk (intv HF.out.symm) HV1.out
  subst hk
  by_cases hm : m = 0
  case neg =>
    have HF : Hid (r = 1) := by show _ = _; rw [← HR.out]; unfold badV; rw [if_neg (by simp : ¬ (0 : Int) ≠ 0), if_pos hm]
    have hm' : (m != 0) = true := by simpa using hm
    clear hrr hm
    go_enter Try.func123, Try.ntmps123
    go_wp2_with fail
    refine wp_loop_rounds 3 ?_
    rw [rounds_succ]
    go_wp2_with fail
    refine CX.out.mono ?_; rintro e w1 ⟨rfl, hb1⟩
    have HV1 := Lib.hid hb1
    clear hb1 hc0 hc1 hc2 hc3
    obtain ⟨hc2, hc3⟩ := HBC.out w1 HV1.out
    go_wp2_with fail
    rw [rounds_succ]
    go_wp2_with fail
    refine (CY.out w1 HV1.out).mono ?_; rintro e w2 ⟨rfl, hb2⟩
    have HV2 := Lib.hid (abvia HV1.out hb2)
    clear hb2 hc2 hc3
    go_wp2
    go_ret
    exact RetB.mk (intv HF.out.symm) HV2.out
  subst hm
  have hr1 : r = refV op 2 := by rw [← HR.out]; rfl
  have HF : Hid (r = if q then (if g then 0 else 16) else 1) := by show _ = _; rw [hr1, hrr]
  clear hr1 hrr
  have hcase : (q = false) ∨ (q = true ∧ g = false) ∨ (q = true ∧ g = true) := by cases q <;> cases g <;> simp
  rcases hcase with rfl | ⟨rfl, rfl⟩ | ⟨rfl, rfl⟩
  · simp only [Bool.false_eq_true, if_false, if_true] at HF
    go_enter Try.func123, Try.ntmps123
    go_wp2_with fail
    refine wp_loop_rounds 3 ?_
    rw [rounds_succ]
    go_wp2_with fail
    refine CX.out.mono ?_; rintro e w1 ⟨rfl, hb1⟩
    have HV1 := Lib.hid hb1
    clear hb1 hc0 hc1 hc2 hc3
    obtain ⟨hc2, hc3⟩ := HBC.out w1 HV1.out
    go_wp2_with fail
    rw [rounds_succ]
    go_wp2_with fail
    refine (CY.out w1 HV1.out).mono ?_; rintro e w2 ⟨rfl, hb2⟩
    have HV2 := Lib.hid (abvia HV1.out hb2)
    clear hb2 hc2 hc3
    go_wp2_with fail
    rw [rounds_succ]
    go_wp2_with fail
    refine (CR.out w2).mono ?_; rintro e w3 ⟨rfl, n3, hw3⟩
    have HV3 : Hid (Below w.heap.size w w3) := by show Below _ _ _; rw [hw3]; exact abvia HV2.out (adrew _ _)
    clear hw3
    go_wp2
    go_ret
    exact RetB.mk (intv HF.out.symm) HV3.out
  · simp only [Bool.false_eq_true, if_false, if_true] at HF
    go_enter Try.func123, Try.ntmps123
    go_wp2_with fail
    refine wp_loop_rounds 3 ?_
    rw [rounds_succ]
    go_wp2_with fail
    refine CX.out.mono ?_; rintro e w1 ⟨rfl, hb1⟩
    have HV1 := Lib.hid hb1
    clear hb1 hc0 hc1 hc2 hc3
    obtain ⟨hc2, hc3⟩ := HBC.out w1 HV1.out
    go_wp2_with fail
    rw [rounds_succ]
    go_wp2_with fail
    refine (CY.out w1 HV1.out).mono ?_; rintro e w2 ⟨rfl, hb2⟩
    have HV2 := Lib.hid (abvia HV1.out hb2)
    clear hb2 hc2 hc3
    go_wp2_with fail
    rw [rounds_succ]
    go_wp2_with fail
    refine (CR.out w2).mono ?_; rintro e w3 ⟨rfl, n3, hw3⟩
    have HV3 : Hid (Below w.heap.size w w3) := by show Below _ _ _; rw [hw3]; exact abvia HV2.out (adrew _ _)
    clear hw3
    go_wp2_with fail
    refine (CH.out w3).mono ?_; rintro e w4 ⟨rfl, n4, hw4⟩
    have HV3 : Hid (Below w.heap.size w w4) := by show Below _ _ _; rw [hw4]; exact abvia HV3.out (adrew _ _)
    clear hw4
    go_wp2
    go_ret
    exact RetB.mk (intv HF.out.symm) HV3.out
  · simp only [Bool.false_eq_true, if_false, if_true] at HF
    go_enter Try.func123, Try.ntmps123
    go_wp2_with fail
    refine wp_loop_rounds 3 ?_
    rw [rounds_succ]
    go_wp2_with fail
    refine CX.out.mono ?_; rintro e w1 ⟨rfl, hb1⟩
    have HV1 := Lib.hid hb1
    clear hb1 hc0 hc1 hc2 hc3
    obtain ⟨hc2, hc3⟩ := HBC.out w1 HV1.out
    go_wp2_with fail
    rw [rounds_succ]
    go_wp2_with fail
    refine (CY.out w1 HV1.out).mono ?_; rintro e w2 ⟨rfl, hb2⟩
    have HV2 := Lib.hid (abvia HV1.out hb2)
    clear hb2 hc2 hc3
    go_wp2_with fail
    rw [rounds_succ]
    go_wp2_with fail
    refine (CR.out w2).mono ?_; rintro e w3 ⟨rfl, n3, hw3⟩
    have HV3 : Hid (Below w.heap.size w w3) := by show Below _ _ _; rw [hw3]; exact abvia HV2.out (adrew _ _)
    clear hw3
    go_wp2_with fail
    refine (CH.out w3).mono ?_; rintro e w4 ⟨rfl, n4, hw4⟩
    have HV3 : Hid (Below w.heap.size w w4) := by show Below _ _ _; rw [hw4]; exact abvia HV3.out (adrew _ _)
    clear hw4
    go_wp2
    go_ret
    exact RetB.mk (intv HF.out.symm) HV3.out
end Go.Proofs.Ytdedbfbkakofgaa

namespace Go.Proofs.Ytdedbfbkakofgaa
open Go.RowKit Go.Lib
set_option linter.unusedVariables false
set_option linter.unusedSimpArgs false
attribute [local go_sem] alloc_drewN setCell_drewN

/-- The answer out of two rows of the call's own, written into the result's box. -/
theorem made_two {w w1 wr : World} {b : Nat} {bo ao : Option Addr} {n d L c : Nat} {s z : List Int} (e : Int) (hw : Below w.heap.size w w1) (hb0 : w.heap.size ≤ b) (hb : b < w1.heap.size) (hr : Below w1.heap.size w1 wr)
    (O1 : wr.ownsRow w1.heap.size 3 1 (.slice bo n d) n (s.map (Value.int .i64))) {B2 : Nat} (hB2 : w1.heap.size ≤ B2) (O2 : wr.ownsRow B2 2 1 (.slice ao L c) L (z.map (Value.int .i64)))
    (h2 : ∀ g, (Value.slice bo n d).ownBlock = some g → g < B2) (b1 : n * 8 ≤ 140737488351232) (b2 : L * 8 ≤ 140737488351232) (r1 : ∀ i, -9223372036854775808 ≤ s.getD i 0 ∧ s.getD i 0 ≤ 9223372036854775807) (r2 : ∀ i, -9223372036854775808 ≤ z.getD i 0 ∧ z.getD i 0 ≤ 9223372036854775807) (u v : Value) :
    MadeE w s z e (.returned (.tuple #[.agg #[.slice bo n d, .slice ao L c], .int .i64 e])) ((wr.setCell ⟨b, 0, none⟩ u).setCell ⟨b, 1, none⟩ v) := by
  have hs := hw.size
  refine made_mk e (((abvia hw hr).setCell hb0 _).setCell hb0 _) (own_mono (ownsRow_setCell_below (ownsRow_setCell_below O1 hb _) hb _) hs) (own_mono (ownsRow_setCell_below (ownsRow_setCell_below O2 (by dsimp only; omega) _) (by dsimp only; omega) _) (by omega)) (fun g hg e2 => ?_) b1 b2 r1 r2
  have := h2 g hg
  have := (own_block O2 e2).1
  omega
set_option maxRecDepth 100000 in
set_option maxHeartbeats 3200000 in
theorem r5monad_any {w : World} {A : Ar} (hA : A.Is w) (op : Int) :
    Calls Try.prog 82 #[.int .i64 op, A.v] w (MadeE w (amoS op A.s A.a) (amoA op A.s A.a) (amoE op A.s A.a)) := by
  obtain ⟨sa, sn, sc, aa, an, ac, s, a⟩ := A
  simp only [Ar.v]
  obtain ⟨W, HW⟩ : ∃ z, Hid ((w.alloc (.cells #[.slice sa sn sc, .slice aa an ac] 55)).alloc (.cells #[.slice none 0 0, .slice none 0 0] 55) = z) := ⟨_, rfl⟩
  have hw : Below w.heap.size w W := by rw [← HW.out]; exact abvia (abal _ _) (abal _ _)
  have BY : BoxA W w.heap.size (.slice sa sn sc) (.slice aa an ac) := by rw [← HW.out]; exact (BoxA.new _ _ _ _).via (abal _ _)
  have BZ : BoxA W (w.heap.size + 1) (.slice none 0 0) (.slice none 0 0) := by rw [← HW.out]; simpa using BoxA.new (w.alloc (.cells #[.slice sa sn sc, .slice aa an ac] 55)) 55 (.slice none 0 0) (.slice none 0 0)
  have hsz : W.heap.size = w.heap.size + 2 := by rw [← HW.out]; simp
  have hI := hA.via hw
  obtain ⟨W1, HW1⟩ : ∃ z, Hid (W.alloc (.cells #[.slice sa sn sc, .slice aa an ac] 55) = z) := ⟨_, rfl⟩
  have hw1 : Below W.heap.size W W1 := by rw [← HW1.out]; exact abal _ _
  have BV : BoxA W1 W.heap.size (.slice sa sn sc) (.slice aa an ac) := by rw [← HW1.out]; exact BoxA.new _ _ _ _
  have CB := Lib.hid (bad_one (hI.via hw1) BV.lt BV.c0 BV.c1 op)
  have hlen : a.length = an := hA.ats.len
  have hrng := hA.ats.rng
  simp only at CB
  obtain ⟨me, HME⟩ : ∃ z, Hid (amE s a = z) := ⟨_, rfl⟩
  obtain ⟨be, HBE⟩ : ∃ z, Hid (badV op 1 me = z) := ⟨_, rfl⟩
  rw [HME.out, HBE.out] at CB
  have hfe : amoE op s a = if be ≠ 0 then be else firE ((List.range an).map (mnE op a)) := by
    rw [← HBE.out, ← HME.out, amoE, hlen]
    unfold badV
    by_cases h1 : amE s a ≠ 0
    · rw [if_pos h1, if_pos h1, if_pos (by decide)]
    · rw [if_neg h1, if_neg h1]
  obtain ⟨fe, HFE⟩ : ∃ z, Hid (amoE op s a = z) := ⟨_, rfl⟩
  obtain ⟨fs, HFS⟩ : ∃ z, Hid (amoS op s a = z) := ⟨_, rfl⟩
  obtain ⟨fa, HFA⟩ : ∃ z, Hid (amoA op s a = z) := ⟨_, rfl⟩
  rw [HFE.out, HFS.out, HFA.out]
  rw [HFE.out] at hfe
  have HFE2 := Lib.hid hfe
  have HNIL : Hid (fe ≠ 0 → [] = fs ∧ [] = fa) := fun h => ⟨by rw [← HFS.out, amoS, HFE.out, if_neg h], by rw [← HFA.out, amoA, HFE.out, if_neg h]⟩
  have HOKM : Hid (fe = 0 → fs = s ∧ fa = (List.range an).map (mnV op a)) := fun h => ⟨by rw [← HFS.out, amoS, HFE.out, if_pos h], by rw [← HFA.out, amoA, HFE.out, if_pos h, hlen]⟩
  have HWB := Lib.hid hw
  have SZ := Lib.hid hsz
  have SZ2 : Hid (w.heap.size + 1 + 1 = W.heap.size) := by show _ = _; omega
  have Y1 := Lib.hid BY
  have Z1 := Lib.hid BZ
  have HI := Lib.hid hI
  have HWC := Lib.hid hw1
  have HLN := Lib.hid hlen
  have HRG := Lib.hid hrng
  have HS0 := Lib.hid hA.shp.rng
  have hab := hA.shp.big
  have haa := hA.ats.big
  simp only at hab haa HS0
  obtain ⟨y0, y1, -, -, -⟩ := BY
  have HEND : Hid (∀ w1, Below W.heap.size W w1 → ∀ e : Int, MadeE w [] [] e (.returned (.tuple #[.agg #[.slice none 0 0, .slice none 0 0], .int .i64 e])) ((w1.setCell ⟨w.heap.size + 1, 0, none⟩ (.slice none 0 0)).setCell ⟨w.heap.size + 1, 1, none⟩ (.slice none 0 0))) := fun w1 hb e =>
    made_nil e (((abvia hw hb).setCell (by dsimp only; omega) _).setCell (by dsimp only; omega) _)
  clear hA hw BZ hsz hI hw1 BV hlen hrng hfe
  go_enter Try.func82, Try.ntmps82
  go_wp2_with fail
  rw [HW.out, HW1.out, SZ2.out]
  refine CB.out.mono ?_; rintro e w2 ⟨rfl, hb2⟩
  have HV2 := Lib.hid (abvia HWC.out hb2)
  clear hb2
  try clear y0 y1
  obtain ⟨y0, y1, -, -, -⟩ := Y1.out.via HV2.out
  try clear z0 z1 z2 z3 z4
  obtain ⟨z0, z1, z2, z3, z4⟩ := Z1.out.via HV2.out
  by_cases hbe : be = 0
  case neg =>
    have hbe' : (be != 0) = true := by simpa using hbe
    have hq := HFE2.out
    rw [if_pos hbe] at hq
    obtain ⟨e2, e3⟩ := HNIL.out (by rw [hq]; exact hbe)
    subst hq e2 e3
    have HF := Lib.hid (HEND.out w2 HV2.out fe)
    go_wp2_with fail
    exact bodyPost_ret (v := .tuple #[.agg #[.slice none 0 0, .slice none 0 0], .int .i64 fe]) (by simp [results, Try.results82, go_sem, *]) rfl HF.out
  subst hbe
  have hq := HFE2.out
  rw [if_neg (by simp)] at hq
  have HQ := Lib.hid hq
  obtain ⟨i0, hi, hz0, hz1, hz2⟩ := info_parts (P := Try.prog) (e := 3) (z := .int .i64 0) (size := 1) (bytes := 8) (by kernel_rfl)
  have HLS := Lib.hid (HI.out.via HV2.out).shp
  simp only at HLS
  have hbd : (0 + sn) * 8 ≤ 140737488355328 := by omega
  have HO0 : Hid (w2.ownsRow w2.heap.size 3 1 (.slice none 0 0) 0 (([] : List Int).map (Value.int .i64))) := World.ownsRow_nil _ _ _ _
  clear hq
  go_wp2_with (at_builtin; refine wpList_append_loc _ rfl _ _ 25 rfl w2.heap.size 3 i0 Try.underlying25 hi hz0 hz1 hz2 _ 0 [] rfl HO0.out rfl HLS.out hbd (Nat.le_refl _) ?_)
  intro bo d w5 hO5 hG5 hl5 hn5
  have HB5 : Hid (Below w2.heap.size w2 w5) := (Below.refl _ _).grown hG5 (Nat.le_refl _) (fun k hk => by simp [Value.ownBlock] at hk)
  have HO5 := Lib.hid hO5
  clear hO5 hG5 hl5 hn5 y0 y1 z0 z1 z2 z3 z4
  obtain ⟨W6, HW6⟩ : ∃ z, Hid (w5.alloc (.cells #[.slice bo sn d, .slice none 0 0] 55) = z) := ⟨_, rfl⟩
  have hwi : WantI w5 W6 w5.heap.size (.slice bo sn d) none 0 0 [] := by rw [← HW6.out]; exact WantI.new _ _
  have HWI := Lib.hid hwi
  obtain ⟨k0, k1, k2, k3, k4⟩ := hwi.box
  clear hwi
  have HV5 := Lib.hid (abvia HV2.out HB5.out)
  go_wp2_with fail
  rw [HW6.out]
  go_loopw [8] (fun i wr => ∃ (k : Nat) (ao : Option Addr) (c : Nat), k ≤ an ∧ i = .int .i64 k ∧ Hid (firE ((List.range k).map (mnE op a)) = 0) ∧ Hid (WantI w5 wr w5.heap.size (.slice bo sn d) ao k c ((List.range k).map (mnV op a)))) (fun i _ => an - (RowKit.intOf i).toNat)
  case atStart => exact ⟨0, none, 0, Nat.zero_le _, rfl, rfl, HWI⟩
  case round =>
    obtain ⟨k, ao, c, hk, rfl, HF0, HR⟩ := hrel
    clear k0 k1 k2 k3 k4
    obtain ⟨k0, k1, k2, k3, k4⟩ := HR.out.box
    have HVR := Lib.hid (abvia HV5.out HR.out.below)
    try clear y0 y1
    obtain ⟨y0, y1, -, -, -⟩ := Y1.out.via HVR.out
    try clear z0 z1 z2 z3 z4
    obtain ⟨z0, z1, z2, z3, z4⟩ := Z1.out.via HVR.out
    by_cases hlt : k < an
    · have hlt' : (k : Int) < an := by omega
      obtain ⟨ob, fb1, rfl, hcb⟩ := (HI.out.via HVR.out).ats.at (show 0 < an by omega)
      have d1 := hcb k hlt
      clear hcb
      simp only at d1
      obtain ⟨x, HX⟩ : ∃ z, Hid (a.getD k 0 = z) := ⟨_, rfl⟩
      rw [HX.out] at d1
      obtain ⟨z, HZ⟩ : ∃ z, Hid (mnV op a k = z) := ⟨_, rfl⟩
      obtain ⟨ee, HEE⟩ : ∃ z, Hid (mnE op a k = z) := ⟨_, rfl⟩
      have HZR : Hid (-9223372036854775808 ≤ z ∧ z ≤ 9223372036854775807) := by show _ ∧ _; rw [← HZ.out]; exact mo_rng op _ (HRG.out k)
      have CW := Lib.hid (rmonad_any op x wr (by rw [← HX.out]; exact HRG.out k))
      rw [show moV op x = z by rw [← HX.out]; exact HZ.out, show moE op x = ee by rw [← HX.out]; exact HEE.out] at CW
      go_wp2_with fail
      refine CW.out.mono ?_; rintro e wx ⟨rfl, n5, hwx⟩
      have HBX : Hid (Below wr.heap.size wr wx) := by show Below _ _ _; rw [hwx]; exact adrew _ _
      clear hwx d1
      have HRX := Lib.hid (HR.out.next HBX.out)
      clear k0 k1 k2 k3 k4
      obtain ⟨k0, k1, k2, k3, k4⟩ := HRX.out.box
      have HVX := Lib.hid (abvia HVR.out HBX.out)
      try clear y0 y1
      obtain ⟨y0, y1, -, -, -⟩ := Y1.out.via HVX.out
      try clear z0 z1 z2 z3 z4
      obtain ⟨z0, z1, z2, z3, z4⟩ := Z1.out.via HVX.out
      by_cases hee : ee = 0
      case neg =>
        have hee' : (ee != 0) = true := by simpa using hee
        have hq : fe = ee := by
          rw [HQ.out]
          have h1 := fst_at (mnE op a) hlt HF0.out (by rw [HEE.out]; exact hee)
          rw [h1, HEE.out]
        obtain ⟨e2, e3⟩ := HNIL.out (by rw [hq]; exact hee)
        subst hq e2 e3
        have HF := Lib.hid (HEND.out wx HVX.out fe)
        go_wp2_with fail
        exact bodyPost_ret (v := .tuple #[.agg #[.slice none 0 0, .slice none 0 0], .int .i64 fe]) (by simp [results, Try.results82, go_sem, *]) rfl HF.out
      subst hee
      obtain ⟨j0, hj, hy0, hy1, hy2⟩ := info_parts (P := Try.prog) (e := 2) (z := .int .i64 0) (size := 1) (bytes := 8) (by kernel_rfl)
      have HO := Lib.hid (own_below HRX.out.own (abal wx (.cells #[.int .i64 z] 2)) (Nat.le_refl _))
      have HLZ := Lib.hid (ls_one wx 2 z HZR.out)
      have hsz : (k + 1) * 8 ≤ 140737488355328 := by omega
      have hbx : w5.heap.size + 1 ≤ wx.heap.size := HRX.out.box.lt
      have hbs : w5.heap.size + 1 ≤ (wx.alloc (.cells #[.int .i64 z] 2)).heap.size := by simp; omega
      go_wp2_with (at_builtin; refine wpList_append_big _ rfl _ _ 50 rfl (w5.heap.size + 1) 2 j0 Try.underlying50 hj hy0 hy1 hy2 _ k ((List.range k).map (mnV op a)) rfl HO.out rfl HLZ.out hsz hbs ?_)
      intro v' w10 hown hgrow
      obtain ⟨ao', c', rfl⟩ := own_form hown
      have hB10 : Below (w5.heap.size + 1) wx w10 := ((abal wx _).mono hbx).grown hgrow hbs (by intro g hg; exact (own_block HO.out hg).1)
      have HG : Hid (WantI w5 (w10.setCell ⟨w5.heap.size, 1, none⟩ (.slice ao' (k + 1) c')) w5.heap.size (.slice bo sn d) ao' (k + 1) c' ((List.range (k + 1)).map (mnV op a))) := by
        refine HRX.out.grow (Below.refl _ _) hB10 ?_
        rw [range_map_snoc, HZ.out]
        simpa using hown
      have HF1 : Hid (firE ((List.range (k + 1)).map (mnE op a)) = 0) := by show _ = _; rw [fst_step, if_pos HF0.out, HEE.out]
      obtain ⟨q0, q1, q2, q3, q4⟩ := HRX.out.box.below hB10 (Nat.lt_succ_self _)
      clear hown hgrow hsz hbs hbx hB10 k0 k1 k2 k3 k4 y0 y1
      go_wp2
      go_roundw
      case rel => exact ⟨k + 1, ao', c', by omega, by go_num, HF1, HG⟩
      case measure => simp [RowKit.intOf]; omega
    · obtain rfl : k = an := by omega
      have hge : (k : Int) ≤ k := Int.le_refl _
      have h0 : fe = 0 := by rw [HQ.out]; exact HF0.out
      obtain ⟨e2, e3⟩ := HOKM.out h0
      subst e2 e3
      have HF : Hid (MadeE w fs ((List.range k).map (mnV op a)) fe (.returned (.tuple #[.agg #[.slice bo sn d, .slice ao k c], .int .i64 fe])) ((wr.setCell ⟨w.heap.size + 1, 0, none⟩ (.slice bo sn d)).setCell ⟨w.heap.size + 1, 1, none⟩ (.slice ao k c))) := by
        have hs5 := HB5.out.size
        refine made_two fe (abvia HWB.out HV2.out) (by omega) (by have := HV2.out.size; have := SZ.out; omega) (abvia HB5.out HR.out.below) (own_below HO5.out HR.out.below (Nat.le_refl _)) (B2 := w5.heap.size + 1) (by omega) HR.out.own (fun g hg => by have := (own_block HO5.out hg).2; omega) (by omega) (by omega) HS0.out (map_range_rng _ _ fun i hi => mo_rng op _ (HRG.out i)) _ _
      subst h0
      go_wp2_with fail
      exact bodyPost_ret (v := .tuple #[.agg #[.slice bo sn d, .slice ao k c], .int .i64 0]) (by simp [results, Try.results82, go_sem, *]) rfl HF.out
end Go.Proofs.Ytdedbfbkakofgaa

namespace Go.Proofs.Ytdedbfbkakofgaa
open Go.RowKit Go.Lib
set_option linter.unusedVariables false
set_option linter.unusedSimpArgs false
attribute [local go_sem] alloc_drewN setCell_drewN

theorem alB_no {s t : List Int} {k : Nat} (h1 : k ≤ s.length) (h2 : k ≤ t.length) (h : alB s t k = false) : agE s t ≠ 0 := by
  intro h0
  have hm : alB s t (min s.length t.length) = true := by
    rw [alB_end (by omega) (by omega) (by omega), decide_eq_true_eq]; exact h0
  unfold alB at h hm
  rw [decide_eq_true_eq] at hm
  rw [decide_eq_false_iff_not] at h
  apply h
  have e := congrArg (List.take k) hm
  rw [List.take_take, List.take_take, Nat.min_eq_left (by omega)] at e
  exact e
theorem ag_ref {s t : List Int} (h : agE s t = 0) : agL s t = if t.length < s.length then s else t := by
  rw [ag_long h]
  by_cases h1 : s.length < t.length
  · rw [if_pos h1, if_neg (by omega)]
  · rw [if_neg h1]
    by_cases h2 : t.length < s.length
    · rw [if_pos h2]
    · rw [if_neg h2]
      unfold agE at h
      rw [if_neg h1] at h
      by_cases h3 : s.take t.length = t
      · rw [List.take_of_length_le (by omega)] at h3; exact h3
      · rw [if_neg h3] at h; omega
set_option maxRecDepth 100000 in
set_option maxHeartbeats 1600000 in
theorem ragree_any {w : World} {a1 a2 : Option Addr} {n1 c1 n2 c2 : Nat} {s t : List Int} (h1 : Ls w a1 n1 c1 s) (h2 : Ls w a2 n2 c2 t) :
    Calls Try.prog 57 #[.slice a1 n1 c1, .slice a2 n2 c2] w (MadeS w (agL s t) (agE s t)) := by
  have l1 := Lib.hid h1.len
  have l2 := Lib.hid h2.len
  have g1 := h1.big
  have g2 := h2.big
  have H1 := Lib.hid h1
  have H2 := Lib.hid h2
  obtain ⟨r, HR⟩ : ∃ z, Hid (agL s t = z) := ⟨_, rfl⟩
  obtain ⟨e, HE⟩ : ∃ z, Hid (agE s t = z) := ⟨_, rfl⟩
  rw [HR.out, HE.out]
  clear h1 h2
  go_enter Try.func57, Try.ntmps57
  go_wp2_with fail
  go_loopw [6] (fun i wr => ∃ k : Nat, k ≤ n1 ∧ k ≤ n2 ∧ i = .int .i64 k ∧ Hid (alB s t k = true) ∧ Hid (Below w.heap.size w wr)) (fun i _ => n1 - (RowKit.intOf i).toNat)
  case atStart => exact ⟨0, Nat.zero_le _, Nat.zero_le _, rfl, alB_zero _ _, Below.refl _ _⟩
  case round =>
    obtain ⟨k, hk1, hk2, rfl, HA, HB⟩ := hrel
    by_cases hgo : k < n1 ∧ k < n2
    · obtain ⟨q1, q2⟩ := hgo
      have q1' : (k : Int) < n1 := by omega
      have q2' : (k : Int) < n2 := by omega
      obtain ⟨oa, fa1, rfl, hca⟩ := (H1.out.via HB.out).at (show 0 < n1 by omega)
      obtain ⟨ob, fb1, rfl, hcb⟩ := (H2.out.via HB.out).at (show 0 < n2 by omega)
      have d1 := hca k q1
      have d2 := hcb k q2
      clear hca hcb
      have HS := Lib.hid (alB_succ (s := s) (t := t) (k := k) (by rw [l1.out]; exact q1) (by rw [l2.out]; exact q2))
      rw [HA.out, Bool.true_and] at HS
      obtain ⟨x, HX⟩ : ∃ z, Hid (s.getD k 0 = z) := ⟨_, rfl⟩
      obtain ⟨y, HY⟩ : ∃ z, Hid (t.getD k 0 = z) := ⟨_, rfl⟩
      rw [HX.out] at d1 HS
      rw [HY.out] at d2 HS
      by_cases hxy : x = y
      · subst hxy
        simp only [decide_true] at HS
        have hb : (x != x) = false := by simp
        go_wp2_with fail
        go_quiet (fail)
        have HVZ : Hid (Below w.heap.size w (wr.drewN nq)) := abvia HB.out (adrew _ _)
        go_wp2
        go_roundw
        case rel => exact ⟨k + 1, by omega, by omega, by go_num, HS, HVZ⟩
        case measure => simp [RowKit.intOf]; omega
      · rw [decide_eq_false hxy] at HS
        have hb : (x != y) = true := by simpa using hxy
        have hne := alB_no (s := s) (t := t) (k := k + 1) (by rw [l1.out]; omega) (by rw [l2.out]; omega) HS.out
        obtain ⟨e1, e2⟩ := ag_bad hne
        rw [HR.out] at e1
        rw [HE.out] at e2
        subst e1 e2
        clear hne
        go_wp2_with fail
        go_quiet (fail)
        have HVZ : Hid (Below w.heap.size w (wr.drewN nq)) := abvia HB.out (adrew _ _)
        go_wp2
        go_ret2
        exact MadeS.nil _ HVZ.out
    · have he0 : e = 0 := by
        have h := alB_end (s := s) (t := t) (k := k) (by rw [l1.out]; exact hk1) (by rw [l2.out]; exact hk2) (by rw [l1.out, l2.out]; omega)
        rw [HA.out] at h
        rw [← HE.out]; exact of_decide_eq_true h.symm
      subst he0
      have hr := ag_ref HE.out
      rw [HR.out, l1.out, l2.out] at hr
      obtain ⟨i0, hi, hz0, hz1, hz2⟩ := info_parts (P := Try.prog) (e := 3) (z := .int .i64 0) (size := 1) (bytes := 8) (by kernel_rfl)
      have HO0 : Hid (wr.ownsRow wr.heap.size 3 1 (.slice none 0 0) 0 (([] : List Int).map (Value.int .i64))) := World.ownsRow_nil _ _ _ _
      have HRA := Lib.hid H1.out.rng
      have HRB := Lib.hid H2.out.rng
      rcases (show (n1 ≤ n2 ∧ n1 ≤ k) ∨ (n2 < n1 ∧ n2 ≤ k) by omega) with ⟨c1', c2'⟩ | ⟨c1', c2'⟩
      · rw [if_neg (show ¬ n2 < n1 by omega)] at hr
        subst hr
        have q1' : (n1 : Int) ≤ k ∨ True := .inr trivial
        have q1 : (n1 : Int) ≤ k := by omega
        have q2 : (n1 : Int) ≤ n2 := by omega
        have HL := Lib.hid (H2.out.via HB.out)
        have hbd : (0 + n2) * 8 ≤ 140737488355328 := by omega
        clear hgo q1'
        go_wp2_with (at_builtin; refine wpList_append_loc _ rfl _ _ 25 rfl wr.heap.size 3 i0 Try.underlying25 hi hz0 hz1 hz2 _ 0 [] rfl HO0.out rfl HL.out hbd (Nat.le_refl _) ?_)
        intro bo d w5 hO5 hG5 hl5 hn5
        have HF : Hid (MadeS w r 0 (.returned (.tuple #[.slice bo n2 d, .int .i64 0])) w5) := by
          have hO6 : w5.ownsRow wr.heap.size 3 1 (.slice bo n2 d) n2 (r.map (Value.int .i64)) := by simpa using hO5
          exact ⟨_, _, _, rfl, ls_of_own hO6 (by omega) HRB.out, own_mono hO6 HB.out.size, abvia HB.out ((Below.refl _ _).grown hG5 (Nat.le_refl _) (fun k hk => by simp [Value.ownBlock] at hk))⟩
        clear hO5 hG5 hl5 hn5
        go_wp2
        go_ret2
        exact HF.out
      · rw [if_pos (show n2 < n1 by omega)] at hr
        subst hr
        have q1' : (n1 : Int) ≤ k ∨ True := .inr trivial
        have q1 : (k : Int) < n1 := by omega
        have q2 : (n2 : Int) ≤ k := by omega
        have q3 : (n2 : Int) < n1 := by omega
        have HL := Lib.hid (H1.out.via HB.out)
        have hbd : (0 + n1) * 8 ≤ 140737488355328 := by omega
        clear hgo q1'
        go_wp2_with (at_builtin; refine wpList_append_loc _ rfl _ _ 25 rfl wr.heap.size 3 i0 Try.underlying25 hi hz0 hz1 hz2 _ 0 [] rfl HO0.out rfl HL.out hbd (Nat.le_refl _) ?_)
        intro bo d w5 hO5 hG5 hl5 hn5
        have HF : Hid (MadeS w r 0 (.returned (.tuple #[.slice bo n1 d, .int .i64 0])) w5) := by
          have hO6 : w5.ownsRow wr.heap.size 3 1 (.slice bo n1 d) n1 (r.map (Value.int .i64)) := by simpa using hO5
          exact ⟨_, _, _, rfl, ls_of_own hO6 (by omega) HRA.out, own_mono hO6 HB.out.size, abvia HB.out ((Below.refl _ _).grown hG5 (Nat.le_refl _) (fun k hk => by simp [Value.ownBlock] at hk))⟩
        clear hO5 hG5 hl5 hn5
        go_wp2
        go_ret2
        exact HF.out
set_option maxRecDepth 100000 in
set_option maxHeartbeats 3200000 in
theorem r5dyad_any {w : World} {X Y : Ar} (hX : X.Is w) (hY : Y.Is w) (op : Int) :
    Calls Try.prog 83 #[.int .i64 op, X.v, Y.v] w (MadeE w (adyS op X.s X.a Y.s Y.a) (adyA op X.s X.a Y.s Y.a) (adyE op X.s X.a Y.s Y.a)) := by
  obtain ⟨sa, sn, sc, aa, an, ac, s, a⟩ := X
  obtain ⟨ta, tn, tc, ba, bn, bc, t, b⟩ := Y
  simp only [Ar.v]
  obtain ⟨W, HW⟩ : ∃ z, Hid (((w.alloc (.cells #[.slice sa sn sc, .slice aa an ac] 55)).alloc (.cells #[.slice ta tn tc, .slice ba bn bc] 55)).alloc (.cells #[.slice none 0 0, .slice none 0 0] 55) = z) := ⟨_, rfl⟩
  have hw : Below w.heap.size w W := by rw [← HW.out]; exact abvia (abvia (abal _ _) (abal _ _)) (abal _ _)
  have B1 : BoxA W w.heap.size (.slice sa sn sc) (.slice aa an ac) := by rw [← HW.out]; exact ((BoxA.new _ _ _ _).via (abal _ _)).via (abal _ _)
  have B2 : BoxA W (w.heap.size + 1) (.slice ta tn tc) (.slice ba bn bc) := by rw [← HW.out]; exact (by simpa using BoxA.new (w.alloc (.cells #[.slice sa sn sc, .slice aa an ac] 55)) 55 (.slice ta tn tc) (.slice ba bn bc) : BoxA _ (w.heap.size + 1) _ _).via (abal _ _)
  have B3 : BoxA W (w.heap.size + 1 + 1) (.slice none 0 0) (.slice none 0 0) := by rw [← HW.out]; simpa using BoxA.new ((w.alloc (.cells #[.slice sa sn sc, .slice aa an ac] 55)).alloc (.cells #[.slice ta tn tc, .slice ba bn bc] 55)) 55 (.slice none 0 0) (.slice none 0 0)
  have hsz : W.heap.size = w.heap.size + 1 + 1 + 1 := by rw [← HW.out]; simp
  have hIX := hX.via hw
  have hIY := hY.via hw
  obtain ⟨W1, HW1⟩ : ∃ z, Hid (W.alloc (.cells #[.slice sa sn sc, .slice aa an ac, .slice ta tn tc, .slice ba bn bc] 55) = z) := ⟨_, rfl⟩
  have hw1 : Below W.heap.size W W1 := by rw [← HW1.out]; exact abal _ _
  have CB := Lib.hid (bad_two (hIX.via hw1) (hIY.via hw1) (B := W.heap.size) (by rw [← HW1.out]; simp) (by rw [← HW1.out]; simp [go_sem]) (by rw [← HW1.out]; simp [go_sem]) (by rw [← HW1.out]; simp [go_sem]) (by rw [← HW1.out]; simp [go_sem]) op)
  have AG := Lib.hid (fun w1 (hb : Below W.heap.size W w1) => ragree_any (hIX.via hb).shp (hIY.via hb).shp)
  have hl1 : a.length = an := hX.ats.len
  have hl2 : b.length = bn := hY.ats.len
  have HR1 := Lib.hid hX.ats.rng
  have HR2 := Lib.hid hY.ats.rng
  simp only at CB AG
  obtain ⟨me, HME⟩ : ∃ z, Hid (amE s a = z) := ⟨_, rfl⟩
  obtain ⟨me2, HME2⟩ : ∃ z, Hid (amE t b = z) := ⟨_, rfl⟩
  obtain ⟨ge, HGE⟩ : ∃ z, Hid (agE s t = z) := ⟨_, rfl⟩
  obtain ⟨gl, HGL⟩ : ∃ z, Hid (agL s t = z) := ⟨_, rfl⟩
  rw [HGE.out, HGL.out] at AG
  obtain ⟨be, HBE⟩ : ∃ z, Hid (badV op 2 (if me ≠ 0 then me else me2) = z) := ⟨_, rfl⟩
  rw [HME.out, HME2.out, HBE.out] at CB
  have hfe : adyE op s a t b = if be ≠ 0 then be else if ge ≠ 0 then ge else firE ((List.range (adyN s t)).map (dnE op a b (adyN s t))) := by
    rw [← HBE.out, ← HGE.out, adyE, HME.out, HME2.out]
    unfold badV
    by_cases h1 : me = 0
    · by_cases h2 : me2 = 0
      · rw [h1, h2]; simp
      · rw [h1, if_pos (.inr h2)]; simp [h2]
    · rw [if_pos (.inl h1)]; simp [h1]
  obtain ⟨fe, HFE⟩ : ∃ z, Hid (adyE op s a t b = z) := ⟨_, rfl⟩
  obtain ⟨fs, HFS⟩ : ∃ z, Hid (adyS op s a t b = z) := ⟨_, rfl⟩
  obtain ⟨fa, HFA⟩ : ∃ z, Hid (adyA op s a t b = z) := ⟨_, rfl⟩
  rw [HFE.out, HFS.out, HFA.out]
  rw [HFE.out] at hfe
  have HFE2 := Lib.hid hfe
  have HNIL : Hid (fe ≠ 0 → [] = fs ∧ [] = fa) := fun h => ⟨by rw [← HFS.out, adyS, HFE.out, if_neg h], by rw [← HFA.out, adyA, HFE.out, if_neg h]⟩
  have HOKM : Hid (fe = 0 → fs = gl ∧ fa = (List.range (adyN s t)).map (dnV op a b (adyN s t))) := fun h => ⟨by rw [← HFS.out, adyS, HFE.out, if_pos h, HGL.out], by rw [← HFA.out, adyA, HFE.out, if_pos h]⟩
  have HWB := Lib.hid hw
  have SZ := Lib.hid hsz
  have SZ2 : Hid (w.heap.size + 1 + 1 + 1 = W.heap.size) := hsz.symm
  have X1 := Lib.hid B1
  have Y1 := Lib.hid B2
  have Z1 := Lib.hid B3
  have HIX := Lib.hid hIX
  have HIY := Lib.hid hIY
  have HWC := Lib.hid hw1
  have HL1 := Lib.hid hl1
  have HL2 := Lib.hid hl2
  obtain ⟨x0, x1, -, -, -⟩ := B1
  obtain ⟨y0, y1, -, -, -⟩ := B2
  have HEND : Hid (∀ w1, Below W.heap.size W w1 → ∀ e : Int, MadeE w [] [] e (.returned (.tuple #[.agg #[.slice none 0 0, .slice none 0 0], .int .i64 e])) ((w1.setCell ⟨w.heap.size + 1 + 1, 0, none⟩ (.slice none 0 0)).setCell ⟨w.heap.size + 1 + 1, 1, none⟩ (.slice none 0 0))) := fun w1 hb e =>
    made_nil e (((abvia hw hb).setCell (by dsimp only; omega) _).setCell (by dsimp only; omega) _)
  clear hX hY hw B3 hsz hIX hIY hw1 hl1 hl2 hfe
  go_enter Try.func83, Try.ntmps83
  go_wp2_with fail
  rw [HW.out, HW1.out, SZ2.out]
  refine CB.out.mono ?_; rintro e w2 ⟨rfl, hb2⟩
  have HV2 := Lib.hid (abvia HWC.out hb2)
  clear hb2
  try clear x0 x1
  obtain ⟨x0, x1, -, -, -⟩ := X1.out.via HV2.out
  try clear y0 y1
  obtain ⟨y0, y1, -, -, -⟩ := Y1.out.via HV2.out
  try clear z0 z1 z2 z3 z4
  obtain ⟨z0, z1, z2, z3, z4⟩ := Z1.out.via HV2.out
  by_cases hbe : be = 0
  case neg =>
    have hbe' : (be != 0) = true := by simpa using hbe
    have hq := HFE2.out
    rw [if_pos hbe] at hq
    obtain ⟨e2, e3⟩ := HNIL.out (by rw [hq]; exact hbe)
    subst hq e2 e3
    have HF := Lib.hid (HEND.out w2 HV2.out fe)
    go_wp2_with fail
    exact bodyPost_ret (v := .tuple #[.agg #[.slice none 0 0, .slice none 0 0], .int .i64 fe]) (by simp [results, Try.results83, go_sem, *]) rfl HF.out
  have hms : me = 0 ∧ me2 = 0 := by
    have h := HBE.out
    rw [hbe] at h
    unfold badV at h
    by_cases h1 : me = 0
    · rw [h1] at h
      by_cases h2 : me2 = 0
      · exact ⟨h1, h2⟩
      · simp [h2] at h
    · simp [h1] at h
  obtain ⟨hm1, hm2⟩ := hms
  subst hm1 hm2 hbe
  go_wp2_with fail
  refine (AG.out w2 HV2.out).mono ?_; rintro e w3 ⟨go, gn, gc, rfl, hLG, hOG, hBG⟩
  have HLG := Lib.hid hLG
  have HOG := Lib.hid hOG
  have HV3 := Lib.hid (abvia HV2.out hBG)
  clear hLG hOG hBG
  try clear x0 x1
  obtain ⟨x0, x1, -, -, -⟩ := X1.out.via HV3.out
  try clear y0 y1
  obtain ⟨y0, y1, -, -, -⟩ := Y1.out.via HV3.out
  try clear z0 z1 z2 z3 z4
  obtain ⟨z0, z1, z2, z3, z4⟩ := Z1.out.via HV3.out
  by_cases hge : ge = 0
  case neg =>
    have hge' : (ge != 0) = true := by simpa using hge
    have hq := HFE2.out
    rw [if_neg (by simp), if_pos hge] at hq
    obtain ⟨e2, e3⟩ := HNIL.out (by rw [hq]; exact hge)
    subst hq e2 e3
    have HF := Lib.hid (HEND.out w3 HV3.out fe)
    go_wp2_with fail
    exact bodyPost_ret (v := .tuple #[.agg #[.slice none 0 0, .slice none 0 0], .int .i64 fe]) (by simp [results, Try.results83, go_sem, *]) rfl HF.out
  subst hge
  have hq := HFE2.out
  rw [if_neg (by simp), if_neg (by simp)] at hq
  obtain ⟨p1, p2, p3, p4⟩ := dy_place HME.out HME2.out HGE.out
  rw [HGL.out] at p1 p2
  obtain ⟨N, HN⟩ : ∃ z, Hid (adyN s t = z) := ⟨_, rfl⟩
  rw [HN.out] at p1 p3 p4 hq HOKM
  rw [HL1.out, HL2.out] at p4
  have HQ := Lib.hid hq
  have HP4 := Lib.hid p4
  have HP1 := Lib.hid p1
  have HP2 := Lib.hid p2
  obtain ⟨i0, hi, hz0, hz1, hz2⟩ := info_parts (P := Try.prog) (e := 3) (z := .int .i64 0) (size := 1) (bytes := 8) (by kernel_rfl)
  have hgb := HLG.out.big
  have hbd : (0 + gn) * 8 ≤ 140737488355328 := by omega
  have HO0 : Hid (w3.ownsRow w3.heap.size 3 1 (.slice none 0 0) 0 (([] : List Int).map (Value.int .i64))) := World.ownsRow_nil _ _ _ _
  clear hq p1 p2 p4
  go_wp2_with (at_builtin; refine wpList_append_loc _ rfl _ _ 25 rfl w3.heap.size 3 i0 Try.underlying25 hi hz0 hz1 hz2 _ 0 [] rfl HO0.out rfl HLG.out hbd (Nat.le_refl _) ?_)
  intro bo d w5 hO5 hG5 hl5 hn5
  have HB5 : Hid (Below w3.heap.size w3 w5) := (Below.refl _ _).grown hG5 (Nat.le_refl _) (fun k hk => by simp [Value.ownBlock] at hk)
  have HO5 : Hid (w5.ownsRow w3.heap.size 3 1 (.slice bo gn d) gn (gl.map (Value.int .i64))) := by show World.ownsRow _ _ _ _ _ _ _; simpa using hO5
  clear hO5 hG5 hl5 hn5 x0 x1 y0 y1 z0 z1 z2 z3 z4
  obtain ⟨W6, HW6⟩ : ∃ z, Hid (w5.alloc (.cells #[.slice bo gn d, .slice none 0 0] 55) = z) := ⟨_, rfl⟩
  have hwi : WantI w5 W6 w5.heap.size (.slice bo gn d) none 0 0 [] := by rw [← HW6.out]; exact WantI.new _ _
  have HWI := Lib.hid hwi
  have CC := Lib.hid (rcount_any (HLG.out.via (abvia HB5.out hwi.below)) HP2.out)
  rw [HP1.out] at CC
  obtain ⟨k0, k1, k2, k3, k4⟩ := hwi.box
  clear hwi
  have HV5 := Lib.hid (abvia HV3.out HB5.out)
  have HRL := Lib.hid HLG.out.rng
  go_wp2_with fail
  rw [HW6.out]
  refine CC.out.mono ?_; rintro e w7 ⟨rfl, hw7⟩
  have hw7' := hw7.symm
  subst hw7'
  go_wp2_with fail
  go_loopw [13] (fun i wr => ∃ (k : Nat) (ao : Option Addr) (c : Nat), k ≤ N ∧ i = .int .i64 k ∧ Hid (firE ((List.range k).map (dnE op a b N)) = 0) ∧ Hid (WantI w5 wr w5.heap.size (.slice bo gn d) ao k c ((List.range k).map (dnV op a b N)))) (fun i _ => N - (RowKit.intOf i).toNat)
  case atStart => exact ⟨0, none, 0, Nat.zero_le _, rfl, rfl, HWI⟩
  case round =>
    obtain ⟨k, ao, c, hk, rfl, HF0, HR⟩ := hrel
    clear k0 k1 k2 k3 k4
    obtain ⟨k0, k1, k2, k3, k4⟩ := HR.out.box
    have HVR := Lib.hid (abvia HV5.out HR.out.below)
    try clear x0 x1
    obtain ⟨x0, x1, -, -, -⟩ := X1.out.via HVR.out
    try clear y0 y1
    obtain ⟨y0, y1, -, -, -⟩ := Y1.out.via HVR.out
    try clear z0 z1 z2 z3 z4
    obtain ⟨z0, z1, z2, z3, z4⟩ := Z1.out.via HVR.out
    by_cases hlt : k < N
    · have hlt' : (k : Int) < N := by omega
      obtain ⟨m1, m2, ⟨q1, q2, q3, q4⟩, q5, q6, q7, q8⟩ := HP4.out k hlt
      obtain ⟨oa, fa1, rfl, hca⟩ := (HIX.out.via HVR.out).ats.at q1
      obtain ⟨ob, fb1, rfl, hcb⟩ := (HIY.out.via HVR.out).ats.at q5
      have d1 := hca (k / m1) q4
      have d2 := hcb (k / m2) q8
      clear hca hcb
      have HJ1 : Hid (k / m1 = k / (N / a.length)) := by show _ = _; rw [HL1.out, q3]
      have HJ2 : Hid (k / m2 = k / (N / b.length)) := by show _ = _; rw [HL2.out, q7]
      obtain ⟨j1, hj1⟩ : ∃ j, k / m1 = j := ⟨_, rfl⟩
      obtain ⟨j2, hj2⟩ : ∃ j, k / m2 = j := ⟨_, rfl⟩
      have e1 : (N : Int).tdiv an = m1 := by rw [Int.tdiv_eq_ediv_of_nonneg (by omega)]; exact_mod_cast q3
      have e2 : (N : Int).tdiv bn = m2 := by rw [Int.tdiv_eq_ediv_of_nonneg (by omega)]; exact_mod_cast q7
      have e3 : (k : Int).tdiv m1 = j1 := by rw [Int.tdiv_eq_ediv_of_nonneg (by omega)]; exact_mod_cast hj1
      have e4 : (k : Int).tdiv m2 = j2 := by rw [Int.tdiv_eq_ediv_of_nonneg (by omega)]; exact_mod_cast hj2
      rw [hj1] at d1 q4 HJ1
      rw [hj2] at d2 q8 HJ2
      obtain ⟨x, HX⟩ : ∃ z, Hid (a.getD j1 0 = z) := ⟨_, rfl⟩
      obtain ⟨y, HY⟩ : ∃ z, Hid (b.getD j2 0 = z) := ⟨_, rfl⟩
      rw [HX.out] at d1
      rw [HY.out] at d2
      have CW := Lib.hid (fun n => rdyad_any op x y (wr.drewN n) (by rw [← HX.out]; exact HR1.out j1) (by rw [← HY.out]; exact HR2.out j2))
      obtain ⟨z, HZ⟩ : ∃ z, Hid (dyV op x y = z) := ⟨_, rfl⟩
      obtain ⟨ee, HEE⟩ : ∃ z, Hid (dyE op x y = z) := ⟨_, rfl⟩
      rw [HZ.out, HEE.out] at CW
      have HZR : Hid (-9223372036854775808 ≤ z ∧ z ≤ 9223372036854775807) := by show _ ∧ _; rw [← HZ.out, ← HX.out, ← HY.out]; exact dy_rng op _ _ (HR1.out j1) (HR2.out j2)
      have HMV : Hid (dnV op a b N k = z) := by show _ = _; rw [dnV, ← HJ1.out, ← HJ2.out, HX.out, HY.out, HZ.out]
      have HMF : Hid (dnE op a b N k = ee) := by show _ = _; rw [dnE, ← HJ1.out, ← HJ2.out, HX.out, HY.out, HEE.out]
      have u1 : ¬ an = 0 := by omega
      have u2 : ¬ bn = 0 := by omega
      have u3 : ¬ m1 = 0 := by omega
      have u4 : ¬ m2 = 0 := by omega
      have u5 : (j1 : Int) < an := by omega
      have u6 : (j2 : Int) < bn := by omega
      have v1 : m1 ≤ 4096 := by rw [← q3]; exact Nat.le_trans (Nat.div_le_self _ _) p3
      have v2 : m2 ≤ 4096 := by rw [← q7]; exact Nat.le_trans (Nat.div_le_self _ _) p3
      have v3 : j1 ≤ 4096 := by rw [← hj1]; exact Nat.le_trans (Nat.div_le_self _ _) (by omega)
      have v4 : j2 ≤ 4096 := by rw [← hj2]; exact Nat.le_trans (Nat.div_le_self _ _) (by omega)
      clear q1 q2 q3 q4 q5 q6 q7 q8 hj1 hj2
      go_wp2_with fail
      go_quiet (with_reducible exact Ret.quiet (CW.out _))
      obtain ⟨wx, HWX⟩ : ∃ z, Hid (wr.drewN nq = z) := ⟨_, rfl⟩
      have HBX : Hid (Below wr.heap.size wr wx) := by show Below _ _ _; rw [← HWX.out]; exact adrew _ _
      rw [HWX.out]
      clear d1 d2 x0 x1 y0 y1 z0 z1 z2 z3 z4 e1 e2 e3 e4 u1 u2 u3 u4 u5 u6 v1 v2 v3 v4
      have HRX := Lib.hid (HR.out.next HBX.out)
      clear k0 k1 k2 k3 k4
      obtain ⟨k0, k1, k2, k3, k4⟩ := HRX.out.box
      have HVX := Lib.hid (abvia HVR.out HBX.out)
      try clear z0 z1 z2 z3 z4
      obtain ⟨z0, z1, z2, z3, z4⟩ := Z1.out.via HVX.out
      by_cases hee : ee = 0
      case neg =>
        have hee' : (ee != 0) = true := by simpa using hee
        have hq : fe = ee := by
          rw [HQ.out]
          have h1 := fst_at (dnE op a b N) hlt HF0.out (by rw [HMF.out]; exact hee)
          rw [h1, HMF.out]
        obtain ⟨e2, e3⟩ := HNIL.out (by rw [hq]; exact hee)
        subst hq e2 e3
        have HF := Lib.hid (HEND.out wx HVX.out fe)
        go_wp2_with fail
        exact bodyPost_ret (v := .tuple #[.agg #[.slice none 0 0, .slice none 0 0], .int .i64 fe]) (by simp [results, Try.results83, go_sem, *]) rfl HF.out
      subst hee
      obtain ⟨j0, hj, hy0, hy1, hy2⟩ := info_parts (P := Try.prog) (e := 2) (z := .int .i64 0) (size := 1) (bytes := 8) (by kernel_rfl)
      have HO := Lib.hid (own_below HRX.out.own (abal wx (.cells #[.int .i64 z] 2)) (Nat.le_refl _))
      have HLZ := Lib.hid (ls_one wx 2 z HZR.out)
      have hsz : (k + 1) * 8 ≤ 140737488355328 := by omega
      have hbx : w5.heap.size + 1 ≤ wx.heap.size := HRX.out.box.lt
      have hbs : w5.heap.size + 1 ≤ (wx.alloc (.cells #[.int .i64 z] 2)).heap.size := by simp; omega
      go_wp2_with (at_builtin; refine wpList_append_big _ rfl _ _ 50 rfl (w5.heap.size + 1) 2 j0 Try.underlying50 hj hy0 hy1 hy2 _ k ((List.range k).map (dnV op a b N)) rfl HO.out rfl HLZ.out hsz hbs ?_)
      intro v' w10 hown hgrow
      obtain ⟨ao', c', rfl⟩ := own_form hown
      have hB10 : Below (w5.heap.size + 1) wx w10 := ((abal wx _).mono hbx).grown hgrow hbs (by intro g hg; exact (own_block HO.out hg).1)
      have HG : Hid (WantI w5 (w10.setCell ⟨w5.heap.size, 1, none⟩ (.slice ao' (k + 1) c')) w5.heap.size (.slice bo gn d) ao' (k + 1) c' ((List.range (k + 1)).map (dnV op a b N))) := by
        refine HRX.out.grow (Below.refl _ _) hB10 ?_
        rw [range_map_snoc, HMV.out]
        simpa using hown
      have HF1 : Hid (firE ((List.range (k + 1)).map (dnE op a b N)) = 0) := by show _ = _; rw [fst_step, if_pos HF0.out, HMF.out]
      obtain ⟨q0, q1, q2, q3, q4⟩ := HRX.out.box.below hB10 (Nat.lt_succ_self _)
      clear hown hgrow hsz hbs hbx hB10 k0 k1 k2 k3 k4
      go_wp2
      go_roundw
      case rel => exact ⟨k + 1, ao', c', by omega, by go_num, HF1, HG⟩
      case measure => simp [RowKit.intOf]; omega
    · obtain rfl : k = N := by omega
      have hge : (k : Int) ≤ k := Int.le_refl _
      have h0 : fe = 0 := by rw [HQ.out]; exact HF0.out
      obtain ⟨e2, e3⟩ := HOKM.out h0
      subst h0 e2 e3
      have HF : Hid (MadeE w fs ((List.range k).map (dnV op a b k)) 0 (.returned (.tuple #[.agg #[.slice bo gn d, .slice ao k c], .int .i64 0])) ((wr.setCell ⟨w.heap.size + 1 + 1, 0, none⟩ (.slice bo gn d)).setCell ⟨w.heap.size + 1 + 1, 1, none⟩ (.slice ao k c))) := by
        have hs5 := HB5.out.size
        refine made_two 0 (abvia HWB.out HV3.out) (by omega) (by have := HV3.out.size; have := SZ.out; omega) (abvia HB5.out HR.out.below) (own_below HO5.out HR.out.below (Nat.le_refl _)) (B2 := w5.heap.size + 1) (by omega) HR.out.own (fun g hg => by have := (own_block HO5.out hg).2; omega) (by omega) (by omega) HRL.out (map_range_rng _ _ fun i hi => dy_rng op _ _ (HR1.out _) (HR2.out _)) _ _
      go_wp2_with fail
      exact bodyPost_ret (v := .tuple #[.agg #[.slice bo gn d, .slice ao k c], .int .i64 0]) (by simp [results, Try.results83, go_sem, *]) rfl HF.out
end Go.Proofs.Ytdedbfbkakofgaa

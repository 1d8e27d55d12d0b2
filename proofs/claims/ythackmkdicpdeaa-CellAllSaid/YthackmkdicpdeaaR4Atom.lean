/- Contract of the document's atom; what it is of a place. -/
import Derived.Test.YthackmkdicpdeaaRef4Base
import Derived.Test.YthackmkdicpdeaaCellDone
import Derived.Test.YthackmkdicpdeaaCellPart
import Derived.Deep.RegionHeld3
import Derived.Deep.Cut
namespace Go.Proofs.Ythackmkdicpdeaa
open Go.RowKit Go.Lib
set_option linter.unusedVariables false
set_option linter.unusedSimpArgs false
attribute [local go_sem] alloc_drewN setCell_drewN
/-- The atom at some indices of a shape that covers it; 0 beside it. -/
def atmV (s a t : List Int) : Int := if ∀ i, i < t.length - s.length → t.getD i 0 = 0 then if plE s (t.drop (t.length - s.length)) = 0 then a.getD (plV s (t.drop (t.length - s.length))).toNat 0 else 0 else 0
theorem atm_lay {c s a : List Int} (hm : mayE c = 0) (hs : mayE s = 0) (h : Cov c s) (q : Nat) (hq : q < (pr c).toNat) : atmV s a (ixL c q) = (layL c s a).getD q 0 := by
  rw [layL_at hm hs h q hq]
  have hl := ixL_len c (q : Int)
  obtain ⟨hl1, hl2⟩ := h
  have hp := pos_all (mayE_zero hm).1 (by omega)
  have hrg : ∀ i, i < c.length → 0 ≤ (ixL c q).getD i 0 ∧ (ixL c q).getD i 0 < c.getD i 0 := fun i hi => ixL_rng hp i hi
  obtain ⟨t, ht⟩ : ∃ t, t = ixL c q := ⟨_, rfl⟩
  rw [← ht] at hl hrg ⊢
  obtain ⟨d, hd⟩ : ∃ d, d = c.length - s.length := ⟨_, rfl⟩
  have e1 : oneS c s = List.replicate d 1 ++ s := by rw [hd]; rfl
  have e2 : t.length - s.length = d := by omega
  have e3 : c.length = d + s.length := by omega
  have e4 : (t.drop d).length = s.length := by rw [List.length_drop]; omega
  unfold atmV
  rw [e2]
  by_cases h0 : ∀ i, i < d → t.getD i 0 = 0
  · rw [if_pos h0]
    have hiff : inR (oneS c s) t c.length ↔ inR s (t.drop d) s.length := by
      constructor
      · intro hh i hi
        have := hh (d + i) (by omega)
        rw [e1, getD_app, List.length_replicate, if_neg (by omega), show d + i - d = i by omega] at this
        rw [show (t.drop d).getD i 0 = t.getD (d + i) 0 by simp [List.getD, List.getElem?_drop]]
        exact this
      · intro hh i hi
        rw [e1, getD_app, List.length_replicate]
        by_cases hid : i < d
        · rw [if_pos hid, h0 i hid]
          simp [List.getD, hid]
        · rw [if_neg hid]
          have := hh (i - d) (by omega)
          rw [show (t.drop d).getD (i - d) 0 = t.getD i 0 by simp [List.getD, List.getElem?_drop]; rw [show d + (i - d) = i by omega]] at this
          exact this
    by_cases hin : inR s (t.drop d) s.length
    · rw [if_pos (hiff.2 hin)]
      have e5 : plE s (t.drop d) = 0 := by unfold plE; rw [if_pos hs, if_pos e4, if_pos hin]
      have e6 : plV s (t.drop d) = plN s (t.drop d) s.length := by unfold plV; rw [if_pos ⟨hs, e4, hin⟩]
      rw [if_pos e5, e6, e1, e3, plN_ones h0]
    · rw [if_neg (fun hh => hin (hiff.1 hh))]
      have e5 : plE s (t.drop d) ≠ 0 := by unfold plE; rw [if_pos hs, if_pos e4, if_neg hin]; decide
      rw [if_neg e5]
  · rw [if_neg h0, if_neg]
    intro hh
    apply h0
    intro i hi
    have := hh i (by omega)
    rw [e1, getD_app, List.length_replicate, if_pos hi] at this
    have e : (List.replicate d (1 : Int)).getD i 0 = 1 := by simp [List.getD, hi]
    omega
set_option maxRecDepth 100000 in
set_option maxHeartbeats 1600000 in
theorem ratom_any {w : World} {A : Ar} (hA : A.Is w) (hm : amE A.s A.a = 0) {qo : Option Addr} {tn tc : Nat} {t : List Int} (hT : Ls w qo tn tc t) (hl : A.sn ≤ tn) (ht8 : tn ≤ 1000) :
    Calls Try.prog 79 #[A.v, .slice qo tn tc] w (RetB w (.int .i64 (atmV A.s A.a t))) := by
  have hsl := hA.shp.len
  have hal := hA.ats.len
  have htl := hT.len
  have hbd : plE A.s (t.drop (tn - A.sn)) = 0 → 0 ≤ plV A.s (t.drop (tn - A.sn)) ∧ plV A.s (t.drop (tn - A.sn)) < A.an := fun h => by
    obtain ⟨hm1, hm2⟩ := amE_zero hm
    have hlen : (t.drop (tn - A.sn)).length = A.s.length := by rw [List.length_drop]; omega
    unfold plE at h
    rw [if_pos hm1, if_pos hlen] at h
    split at h
    · rename_i hr
      have hb := plN_bd (mayE_zero hm1).1 (Nat.le_refl _) hr
      rw [List.take_length] at hb
      unfold plV
      rw [if_pos ⟨hm1, hlen, hr⟩]
      omega
    · omega
  obtain ⟨sa, sn, sc, aa, an, ac, s, a⟩ := A
  simp only [Ar.v] at *
  obtain ⟨d, hd⟩ : ∃ d, d = tn - sn := ⟨_, rfl⟩
  have HV : Hid (atmV s a t = if ∀ i, i < d → t.getD i 0 = 0 then if plE s (t.drop d) = 0 then a.getD (plV s (t.drop d)).toNat 0 else 0 else 0) := by
    show _ = _
    unfold atmV
    rw [show t.length - s.length = d by omega]
  rw [← hd] at hbd
  obtain ⟨v, HVV⟩ : ∃ z, Hid (atmV s a t = z) := ⟨_, rfl⟩
  rw [HVV.out] at HV ⊢
  have h0 := (Sp.start Non w).alloc 45 2 1 #[.slice sa sn sc, .slice aa an ac] rfl (by decide)
  obtain ⟨W, HW⟩ : ∃ z, Hid (w.alloc (.cells #[.slice sa sn sc, .slice aa an ac] 45) = z) := ⟨_, rfl⟩
  rw [HW.out] at h0
  have H1_ := h0
  try simp only [List.cons_append, List.nil_append, List.set_cons_zero, List.set_cons_succ, List.map_cons, List.map_nil, List.getD_cons_zero, List.getD_cons_succ, World.size_alloc] at H1_
  have H1 := Lib.hid H1_
  clear H1_
  obtain ⟨g, HG⟩ : ∃ z, Hid (w.heap.size = z) := ⟨_, rfl⟩
  rw [HG.out] at H1
  have HA := Lib.hid hA
  have HT := Lib.hid hT
  have y0 := H1.out.cell (i := 0) rfl 0 _ rfl
  have w1 : IntKind.i64.wrap ((tn : Int) - sn) = d := by rw [IntWalk.i64_in _ (by omega)]; omega
  have hcap := hT.cap
  have LT : Hid (∀ W', Below w.heap.size w W' → Ls W' (if tc = d then qo else qo.map fun x => x.add d) (tn - d) (tc - d) (t.drop d)) := fun W' hb => by
    have h := (hT.below hb (Nat.le_refl _)).cutI d (tn - d) (by omega)
    rwa [List.take_of_length_le (by rw [List.length_drop]; omega)] at h
  have HP : Hid (∀ (W' : World) (xo : Option Addr) (xc : Nat), Below w.heap.size w W' → Ls W' xo (tn - d) xc (t.drop d) → Calls Try.prog 94 #[.slice sa sn sc, .slice xo (tn - d) xc] W' (RetB W' (.tuple #[.int .i64 (plV s (t.drop d)), .int .i64 (plE s (t.drop d))]))) := fun W' xo xc hb h => rplace_any (HA.out.shp.below hb (Nat.le_refl _)) h
  obtain ⟨pv, HPV⟩ : ∃ z, Hid (plV s (t.drop d) = z) := ⟨_, rfl⟩
  obtain ⟨pe, HPE⟩ : ∃ z, Hid (plE s (t.drop d) = z) := ⟨_, rfl⟩
  rw [HPV.out, HPE.out] at HP HV hbd
  have HBD := Lib.hid hbd
  have HLN := Lib.hid (And.intro htl (And.intro hal hsl))
  have hdt : d ≤ tn := by omega
  clear hA hT h0 hm hbd htl hal hsl hd
  go_enter Try.func79, Try.ntmps79
  go_upto_region 1 with fail
  rw [HW.out, HG.out]
  go_wp2_with fail
  go_loopw [6] (fun u wr => ∃ i : Nat, i ≤ d ∧ u = .int .i64 i ∧ Hid (∀ j, j < i → t.getD j 0 = 0) ∧ wr = W) (fun u _ => d - (RowKit.intOf u).toNat)
  case atStart => exact ⟨0, Nat.zero_le _, rfl, fun j hj => absurd hj (by omega), rfl⟩
  case round =>
    obtain ⟨i, hi, rfl, HZ, rfl⟩ := hrel
    by_cases hlt : i < d
    · have hlt' : (i : Int) < d := by omega
      obtain ⟨b2, o2, e2, hc2⟩ := (HT.out.below H1.out.belowN (Nat.le_refl _)).at (by omega)
      have d1 := hc2 i (by omega)
      subst e2
      have hix : (i : Int) < tn := by omega
      obtain ⟨x, HX⟩ : ∃ z, Hid (t.getD i 0 = z) := ⟨_, rfl⟩
      rw [HX.out] at d1
      clear hc2
      by_cases hx : x = 0
      · subst hx
        have HZ2 : Hid (∀ j, j < i + 1 → t.getD j 0 = 0) := fun j hj => by
          by_cases e : j = i
          · subst e; exact HX.out
          · exact HZ.out j (by omega)
        clear HX HZ
        go_wp2_with fail
        go_roundw
        case rel => exact ⟨i + 1, by omega, by go_num, HZ2, by trivial⟩
        case measure => simp [RowKit.intOf]; omega
      · have hx' : (x != 0) = true := by simpa using hx
        have hv0 : v = 0 := by
          rw [HV.out, if_neg]
          intro h
          have := h i hlt
          rw [HX.out] at this
          exact hx this
        subst hv0
        have HB := Lib.hid H1.out.belowN
        clear HX hx H1
        go_wp2
        go_ret
        exact RetB.mk rfl HB.out
    · obtain rfl : d = i := by omega
      have hge : ¬ ((d : Int) < d) := by omega
      have hv1 : v = if pe = 0 then a.getD pv.toNat 0 else 0 := by rw [HV.out, if_pos HZ.out]
      have HV1 := Lib.hid hv1
      clear hv1 HV HZ hlt hi
      have z1 : (d : Int) ≤ tn := by omega
      by_cases htc : tc = d
      · have hdn : tn = d := by omega
        subst htc
        subst hdn
        have CP : Hid (∀ W', Below wr.heap.size wr W' → Calls Try.prog 94 #[.slice sa sn sc, .slice qo 0 0] W' (RetB W' (.tuple #[.int .i64 pv, .int .i64 pe]))) := fun W' hb => by
          have hw := (H1.out.via hb).belowN
          have h := LT.out W' hw
          rw [if_pos rfl, Nat.sub_self] at h
          have h2 := HP.out W' qo 0 hw (by rw [Nat.sub_self]; exact h)
          rw [Nat.sub_self] at h2
          exact h2
        clear LT HP
        go_upto_region 7 with fail
        go_region_held3 (fun u => u.cell? ⟨g, 0, none⟩ = some (.slice sa sn sc)) (go_keep)
          (first
          | (go_at_call 94; (with_reducible refine Calls.mono (CP.out _ (adrew1 _)) ?_); rintro e v1 ⟨rfl, hq⟩; have K1 := Lib.hid ((H1.out.via (adrew1 _)).via hq); clear hq CP y0; have y0 := K1.out.cell (i := 0) rfl 0 _ rfl)
          )
        all_goals
          have HB := Lib.hid K1.out.belowN
          by_cases hpe : pe = 0
          · obtain ⟨b1, b2⟩ := HBD.out hpe
            have hv2 : v = a.getD pv.toNat 0 := by rw [HV1.out, if_pos hpe]
            obtain ⟨p, rfl⟩ := Int.eq_ofNat_of_zero_le b1
            rw [Int.toNat_natCast] at hv2
            subst hpe
            obtain ⟨b6, o6, e6, hc6⟩ := (HA.out.below HB.out (Nat.le_refl _)).ats.at (by simp only; omega)
            have d6 := hc6 p (by simp only; omega)
            simp only at e6 d6
            subst e6
            rw [← hv2] at d6
            have y1 := K1.out.cell (i := 0) rfl 1 _ rfl
            have hpa : (p : Int) < an := b2
            clear hc6 hv2 HV1 b1 b2 K1
            go_wp2
            go_ret
            exact RetB.mk rfl HB.out
          · have hv2 : v = 0 := by rw [HV1.out, if_neg hpe]
            subst hv2
            have hpe' : (pe != 0) = true := by simpa using hpe
            clear hpe HV1 K1
            go_wp2
            go_ret
            exact RetB.mk rfl HB.out
      · have z2 : d < tc := by omega
        have z3 : (d : Int) < tc := by omega
        have CP : Hid (∀ W', Below wr.heap.size wr W' → Calls Try.prog 94 #[.slice sa sn sc, .slice (qo.map fun x => x.add d) (tn - d) (tc - d)] W' (RetB W' (.tuple #[.int .i64 pv, .int .i64 pe]))) := fun W' hb => by
          have hw := (H1.out.via hb).belowN
          have h := LT.out W' hw
          rw [if_neg htc] at h
          exact HP.out W' _ _ hw h
        clear LT HP
        go_upto_region 7 with fail
        go_region_held3 (fun u => u.cell? ⟨g, 0, none⟩ = some (.slice sa sn sc)) (go_keep)
          (first
          | (go_at_call 94; (with_reducible refine Calls.mono (CP.out _ (adrew1 _)) ?_); rintro e v1 ⟨rfl, hq⟩; have K1 := Lib.hid ((H1.out.via (adrew1 _)).via hq); clear hq CP y0; have y0 := K1.out.cell (i := 0) rfl 0 _ rfl)
          )
        all_goals
          have HB := Lib.hid K1.out.belowN
          by_cases hpe : pe = 0
          · obtain ⟨b1, b2⟩ := HBD.out hpe
            have hv2 : v = a.getD pv.toNat 0 := by rw [HV1.out, if_pos hpe]
            obtain ⟨p, rfl⟩ := Int.eq_ofNat_of_zero_le b1
            rw [Int.toNat_natCast] at hv2
            subst hpe
            obtain ⟨b6, o6, e6, hc6⟩ := (HA.out.below HB.out (Nat.le_refl _)).ats.at (by simp only; omega)
            have d6 := hc6 p (by simp only; omega)
            simp only at e6 d6
            subst e6
            rw [← hv2] at d6
            have y1 := K1.out.cell (i := 0) rfl 1 _ rfl
            have hpa : (p : Int) < an := b2
            clear hc6 hv2 HV1 b1 b2 K1
            go_wp2
            go_ret
            exact RetB.mk rfl HB.out
          · have hv2 : v = 0 := by rw [HV1.out, if_neg hpe]
            subst hv2
            have hpe' : (pe != 0) = true := by simpa using hpe
            clear hpe HV1 K1
            go_wp2
            go_ret
            exact RetB.mk rfl HB.out
end Go.Proofs.Ythackmkdicpdeaa

/- The calls of layer 5 and 7, asked of the program and of the document. -/
import Derived.Test.YtdedbfbkakofgaaAtomFreshM29
namespace Go.Proofs.Ytdedbfbkakofgaa
open Go.RowKit Go.Lib
set_option linter.unusedVariables false
set_option linter.unusedSimpArgs false
attribute [local go_sem] alloc_drewN setCell_drewN

/-- One call of the layer: its kind, its verb, a number, two arrays. -/
structure Opv where
  (k op n : Int)
  (x y : Ar)
def Opv.cells (o : Opv) : Array Value := #[.int .i64 o.k, .int .i64 o.op, .int .i64 o.n, .slice o.x.sa o.x.sn o.x.sc, .slice o.x.aa o.x.an o.x.ac, .slice o.y.sa o.y.sn o.y.sc, .slice o.y.aa o.y.an o.y.ac]
/-- An answer that lies in memory of the call's own, laid into the result's box. -/
theorem made_move {w w3 : World} {B : Ar} {s a : List Int} {base b : Nat} (e : Int) (hI : B.Is w3) (hs : B.s = s) (ha : B.a = a) (hO : B.Own w3 base) (hw : Below w.heap.size w w3) (hb1 : w.heap.size ≤ b) (hb : b < base) (T : TypeId) (u v : Value) :
    MadeE w s a e (.returned (.tuple #[.agg #[.slice B.sa B.sn B.sc, .slice B.aa B.an B.ac], .int .i64 e])) (((w3.setCell ⟨b, 0, none⟩ u).setCell ⟨b, 1, none⟩ v).alloc (.cells #[.slice B.sa B.sn B.sc, .slice B.aa B.an B.ac] T)) := by
  subst hs ha
  refine made_mk e (abvia ((hw.setCell hb1 _).setCell hb1 _) (abal _ _)) (own_mono ((ownsRow_setCell_below (ownsRow_setCell_below hO.shp hb _) hb _).alloc _) (by omega)) (own_mono ((ownsRow_setCell_below (ownsRow_setCell_below hO.ats hb _) hb _).alloc _) (by omega)) hO.two hI.shp.big hI.ats.big hI.shp.rng hI.ats.rng
set_option maxRecDepth 100000 in
set_option maxHeartbeats 1600000 in
theorem asked5_any {w : World} {X Y : Ar} (hX : X.Is w) (hY : Y.Is w) (k op n : Int) :
    Calls Try.prog 35 #[.agg (Opv.cells ⟨k, op, n, X, Y⟩)] w (MadeE w (if k = 2 then amoS op Y.s Y.a else adyS op X.s X.a Y.s Y.a) (if k = 2 then amoA op Y.s Y.a else adyA op X.s X.a Y.s Y.a) (if k = 2 then amoE op Y.s Y.a else adyE op X.s X.a Y.s Y.a)) := by
  obtain ⟨sa, sn, sc, aa, an, ac, s, a⟩ := X
  obtain ⟨ta, tn, tc, ba, bn, bc, t, b⟩ := Y
  simp only [Opv.cells]
  obtain ⟨W, HW⟩ : ∃ z, Hid ((w.alloc (.cells #[.int .i64 k, .int .i64 op, .int .i64 n, .slice sa sn sc, .slice aa an ac, .slice ta tn tc, .slice ba bn bc] 75)).alloc (.cells #[.slice none 0 0, .slice none 0 0] 55) = z) := ⟨_, rfl⟩
  have hw : Below w.heap.size w W := by rw [← HW.out]; exact abvia (abal _ _) (abal _ _)
  have hsz : W.heap.size = w.heap.size + 1 + 1 := by rw [← HW.out]; simp
  have BZ : BoxA W (w.heap.size + 1) (.slice none 0 0) (.slice none 0 0) := by rw [← HW.out]; simpa using BoxA.new (w.alloc (.cells #[.int .i64 k, .int .i64 op, .int .i64 n, .slice sa sn sc, .slice aa an ac, .slice ta tn tc, .slice ba bn bc] 75)) 55 (.slice none 0 0) (.slice none 0 0)
  have CM := Lib.hid (amonad_any (hY.via hw) op)
  have CD := Lib.hid (adyad_any (hX.via hw) (hY.via hw) op)
  simp only [Ar.v] at CM CD
  have HWB := Lib.hid hw
  have SZ := Lib.hid hsz
  have Z1 := Lib.hid BZ
  clear hX hY hw hsz BZ
  by_cases hk : k = 2
  · subst hk
    rw [if_pos rfl, if_pos rfl, if_pos rfl]
    obtain ⟨es, HES⟩ : ∃ z, Hid (amoS op t b = z) := ⟨_, rfl⟩
    obtain ⟨ea, HEA⟩ : ∃ z, Hid (amoA op t b = z) := ⟨_, rfl⟩
    obtain ⟨ee, HEE⟩ : ∃ z, Hid (amoE op t b = z) := ⟨_, rfl⟩
    rw [HES.out, HEA.out, HEE.out] at CM ⊢
    go_enter Try.func35, Try.ntmps35
    go_wp2_with fail
    rw [HW.out]
    refine CM.out.mono ?_; rintro e w3 ⟨⟨sa3, sn3, sc3, aa3, an3, ac3, s3, a3⟩, rfl, hI3, hs3, ha3, hO3, hbq⟩
    have HF := Lib.hid (made_move ee hI3 hs3 ha3 hO3 (abvia HWB.out hbq) (b := w.heap.size + 1) (by omega) (by have := SZ.out; omega) 55 (.slice sa3 sn3 sc3) (.slice aa3 an3 ac3))
    simp only at HF
    obtain ⟨z0, z1, z2, z3, z4⟩ := Z1.out.via hbq
    clear hI3 hs3 ha3 hO3 hbq
    simp only [Ar.v]
    go_wp2_with fail
    exact bodyPost_ret (v := .tuple #[.agg #[.slice sa3 sn3 sc3, .slice aa3 an3 ac3], .int .i64 ee]) (by simp [results, Try.results35, go_sem, *]) rfl HF.out
  · have hk' : (k == 2) = false := by simpa using hk
    rw [if_neg hk, if_neg hk, if_neg hk]
    obtain ⟨es, HES⟩ : ∃ z, Hid (adyS op s a t b = z) := ⟨_, rfl⟩
    obtain ⟨ea, HEA⟩ : ∃ z, Hid (adyA op s a t b = z) := ⟨_, rfl⟩
    obtain ⟨ee, HEE⟩ : ∃ z, Hid (adyE op s a t b = z) := ⟨_, rfl⟩
    rw [HES.out, HEA.out, HEE.out] at CD ⊢
    go_enter Try.func35, Try.ntmps35
    go_wp2_with fail
    rw [HW.out]
    refine CD.out.mono ?_; rintro e w3 ⟨⟨sa3, sn3, sc3, aa3, an3, ac3, s3, a3⟩, rfl, hI3, hs3, ha3, hO3, hbq⟩
    have HF := Lib.hid (made_move ee hI3 hs3 ha3 hO3 (abvia HWB.out hbq) (b := w.heap.size + 1) (by omega) (by have := SZ.out; omega) 55 (.slice sa3 sn3 sc3) (.slice aa3 an3 ac3))
    simp only at HF
    obtain ⟨z0, z1, z2, z3, z4⟩ := Z1.out.via hbq
    clear hI3 hs3 ha3 hO3 hbq
    simp only [Ar.v]
    go_wp2_with fail
    exact bodyPost_ret (v := .tuple #[.agg #[.slice sa3 sn3 sc3, .slice aa3 an3 ac3], .int .i64 ee]) (by simp [results, Try.results35, go_sem, *]) rfl HF.out
set_option maxRecDepth 100000 in
set_option maxHeartbeats 1600000 in
theorem meant5_any {w : World} {X Y : Ar} (hX : X.Is w) (hY : Y.Is w) (k op n : Int) :
    Calls Try.prog 33 #[.agg (Opv.cells ⟨k, op, n, X, Y⟩)] w (MadeE w (if k = 2 then amoS op Y.s Y.a else adyS op X.s X.a Y.s Y.a) (if k = 2 then amoA op Y.s Y.a else adyA op X.s X.a Y.s Y.a) (if k = 2 then amoE op Y.s Y.a else adyE op X.s X.a Y.s Y.a)) := by
  obtain ⟨sa, sn, sc, aa, an, ac, s, a⟩ := X
  obtain ⟨ta, tn, tc, ba, bn, bc, t, b⟩ := Y
  simp only [Opv.cells]
  obtain ⟨W, HW⟩ : ∃ z, Hid ((w.alloc (.cells #[.int .i64 k, .int .i64 op, .int .i64 n, .slice sa sn sc, .slice aa an ac, .slice ta tn tc, .slice ba bn bc] 75)).alloc (.cells #[.slice none 0 0, .slice none 0 0] 55) = z) := ⟨_, rfl⟩
  have hw : Below w.heap.size w W := by rw [← HW.out]; exact abvia (abal _ _) (abal _ _)
  have hsz : W.heap.size = w.heap.size + 1 + 1 := by rw [← HW.out]; simp
  have BZ : BoxA W (w.heap.size + 1) (.slice none 0 0) (.slice none 0 0) := by rw [← HW.out]; simpa using BoxA.new (w.alloc (.cells #[.int .i64 k, .int .i64 op, .int .i64 n, .slice sa sn sc, .slice aa an ac, .slice ta tn tc, .slice ba bn bc] 75)) 55 (.slice none 0 0) (.slice none 0 0)
  have CM := Lib.hid (r5monad_any (hY.via hw) op)
  have CD := Lib.hid (r5dyad_any (hX.via hw) (hY.via hw) op)
  simp only [Ar.v] at CM CD
  have HWB := Lib.hid hw
  have SZ := Lib.hid hsz
  have Z1 := Lib.hid BZ
  clear hX hY hw hsz BZ
  by_cases hk : k = 2
  · subst hk
    rw [if_pos rfl, if_pos rfl, if_pos rfl]
    obtain ⟨es, HES⟩ : ∃ z, Hid (amoS op t b = z) := ⟨_, rfl⟩
    obtain ⟨ea, HEA⟩ : ∃ z, Hid (amoA op t b = z) := ⟨_, rfl⟩
    obtain ⟨ee, HEE⟩ : ∃ z, Hid (amoE op t b = z) := ⟨_, rfl⟩
    rw [HES.out, HEA.out, HEE.out] at CM ⊢
    go_enter Try.func33, Try.ntmps33
    go_wp2_with fail
    rw [HW.out]
    refine CM.out.mono ?_; rintro e w3 ⟨⟨sa3, sn3, sc3, aa3, an3, ac3, s3, a3⟩, rfl, hI3, hs3, ha3, hO3, hbq⟩
    have HF := Lib.hid (made_move ee hI3 hs3 ha3 hO3 (abvia HWB.out hbq) (b := w.heap.size + 1) (by omega) (by have := SZ.out; omega) 55 (.slice sa3 sn3 sc3) (.slice aa3 an3 ac3))
    simp only at HF
    obtain ⟨z0, z1, z2, z3, z4⟩ := Z1.out.via hbq
    clear hI3 hs3 ha3 hO3 hbq
    simp only [Ar.v]
    go_wp2_with fail
    exact bodyPost_ret (v := .tuple #[.agg #[.slice sa3 sn3 sc3, .slice aa3 an3 ac3], .int .i64 ee]) (by simp [results, Try.results33, go_sem, *]) rfl HF.out
  · have hk' : (k == 2) = false := by simpa using hk
    rw [if_neg hk, if_neg hk, if_neg hk]
    obtain ⟨es, HES⟩ : ∃ z, Hid (adyS op s a t b = z) := ⟨_, rfl⟩
    obtain ⟨ea, HEA⟩ : ∃ z, Hid (adyA op s a t b = z) := ⟨_, rfl⟩
    obtain ⟨ee, HEE⟩ : ∃ z, Hid (adyE op s a t b = z) := ⟨_, rfl⟩
    rw [HES.out, HEA.out, HEE.out] at CD ⊢
    go_enter Try.func33, Try.ntmps33
    go_wp2_with fail
    rw [HW.out]
    refine CD.out.mono ?_; rintro e w3 ⟨⟨sa3, sn3, sc3, aa3, an3, ac3, s3, a3⟩, rfl, hI3, hs3, ha3, hO3, hbq⟩
    have HF := Lib.hid (made_move ee hI3 hs3 ha3 hO3 (abvia HWB.out hbq) (b := w.heap.size + 1) (by omega) (by have := SZ.out; omega) 55 (.slice sa3 sn3 sc3) (.slice aa3 an3 ac3))
    simp only at HF
    obtain ⟨z0, z1, z2, z3, z4⟩ := Z1.out.via hbq
    clear hI3 hs3 ha3 hO3 hbq
    simp only [Ar.v]
    go_wp2_with fail
    exact bodyPost_ret (v := .tuple #[.agg #[.slice sa3 sn3 sc3, .slice aa3 an3 ac3], .int .i64 ee]) (by simp [results, Try.results33, go_sem, *]) rfl HF.out
end Go.Proofs.Ytdedbfbkakofgaa

/- The calls of layer 5 and 7, asked of the program and of the document. Contracts of the document's layer 3 (abacusref3): Scalar, List, Fill, Items, Rest, Compare, Same. Contracts of the document's Compare and Same (abacusref3). -/
import Derived.Test.YtdedbfbkakofgaaArrAllM25
import Derived.Test.YtdedbfbkakofgaaArrAllM24
namespace Go.Proofs.Ytdedbfbkakofgaa
open Go.RowKit Go.Lib
set_option linter.unusedVariables false
set_option linter.unusedSimpArgs false
attribute [local go_sem] alloc_drewN setCell_drewN

/-- One call of the layer: its kind, its verb, a number, two arrays. -/
structure Opv where
  (k op n : Int)
  (x y : Ar)
def Opv.cells (o : Opv) : Array Value := #[.int .i64 o.k, .int .i64 o.op, .int .i64 o.n, .slice o.x.sa o.x.sn o.x.sc, .slice o.x.aa o.x.an o.x.ac, .slice o.y.sa o.y.sn o.y.sc, .slice o.y.aa o.y.an o.y.ac]
/-- An answer that lies in memory of the call's own, laid into the result's box. -/
theorem made_move {w w3 : World} {B : Ar} {s a : List Int} {base b : Nat} (e : Int) (hI : B.Is w3) (hs : B.s = s) (ha : B.a = a) (hO : B.Own w3 base) (hw : Below w.heap.size w w3) (hb1 : w.heap.size ≤ b) (hb : b < base) (T : TypeId) (u v : Value) :
    MadeE w s a e (.returned (.tuple #[.agg #[.slice B.sa B.sn B.sc, .slice B.aa B.an B.ac], .int .i64 e])) (((w3.setCell ⟨b, 0, none⟩ u).setCell ⟨b, 1, none⟩ v).alloc (.cells #[.slice B.sa B.sn B.sc, .slice B.aa B.an B.ac] T)) := by
  subst hs ha
  refine made_mk e (abvia ((hw.setCell hb1 _).setCell hb1 _) (abal _ _)) (own_mono ((ownsRow_setCell_below (ownsRow_setCell_below hO.shp hb _) hb _).alloc _) (by omega)) (own_mono ((ownsRow_setCell_below (ownsRow_setCell_below hO.ats hb _) hb _).alloc _) (by omega)) hO.two hI.shp.big hI.ats.big hI.shp.rng hI.ats.rng
set_option maxRecDepth 100000 in
set_option maxHeartbeats 1600000 in
theorem asked5_any {w : World} {X Y : Ar} (hX : X.Is w) (hY : Y.Is w) (k op n : Int) :
    Calls Try.prog 35 #[.agg (Opv.cells ⟨k, op, n, X, Y⟩)] w (MadeE w (if k = 2 then amoS op Y.s Y.a else adyS op X.s X.a Y.s Y.a) (if k = 2 then amoA op Y.s Y.a else adyA op X.s X.a Y.s Y.a) (if k = 2 then amoE op Y.s Y.a else adyE op X.s X.a Y.s Y.a)) := by
  obtain ⟨sa, sn, sc, aa, an, ac, s, a⟩ := X
  obtain ⟨ta, tn, tc, ba, bn, bc, t, b⟩ := Y
  simp only [Opv.cells]
  obtain ⟨W, HW⟩ : ∃ z, Hid ((w.alloc (.cells #[.int .i64 k, .int .i64 op, .int .i64 n, .slice sa sn sc, .slice aa an ac, .slice ta tn tc, .slice ba bn bc] 75)).alloc (.cells #[.slice none 0 0, .slice none 0 0] 55) = z) := ⟨_, rfl⟩
  have hw : Below w.heap.size w W := by rw [← HW.out]; exact abvia (abal _ _) (abal _ _)
  have hsz : W.heap.size = w.heap.size + 1 + 1 := by rw [← HW.out]; simp
  have BZ : BoxA W (w.heap.size + 1) (.slice none 0 0) (.slice none 0 0) := by rw [← HW.out]; simpa using BoxA.new (w.alloc (.cells #[.int .i64 k, .int .i64 op, .int .i64 n, .slice sa sn sc, .slice aa an ac, .slice ta tn tc, .slice ba bn bc] 75)) 55 (.slice none 0 0) (.slice none 0 0)
  have CM := Lib.hid (amonad_any (hY.via hw) op)
  have CD := Lib.hid (adyad_any (hX.via hw) (hY.via hw) op)
  simp only [Ar.v] at CM CD
  have HWB := Lib.hid hw
  have SZ := Lib.hid hsz
  have Z1 := Lib.hid BZ
  clear hX hY hw hsz BZ
  by_cases hk : k = 2
  · subst hk
    rw [if_pos rfl, if_pos rfl, if_pos rfl]
    obtain ⟨es, HES⟩ : ∃ z, Hid (amoS op t b = z) := ⟨_, rfl⟩
    obtain ⟨ea, HEA⟩ : ∃ z, Hid (amoA op t b = z) := ⟨_, rfl⟩
    obtain ⟨ee, HEE⟩ : ∃ z, Hid (amoE op t b = z) := ⟨_, rfl⟩
    rw [HES.out, HEA.out, HEE.out] at CM ⊢
    go_enter Try.func35, Try.ntmps35
    go_wp2_with fail
    rw [HW.out]
    refine CM.out.mono ?_; rintro e w3 ⟨⟨sa3, sn3, sc3, aa3, an3, ac3, s3, a3⟩, rfl, hI3, hs3, ha3, hO3, hbq⟩
    have HF := Lib.hid (made_move ee hI3 hs3 ha3 hO3 (abvia HWB.out hbq) (b := w.heap.size + 1) (by omega) (by have := SZ.out; omega) 55 (.slice sa3 sn3 sc3) (.slice aa3 an3 ac3))
    simp only at HF
    obtain ⟨z0, z1, z2, z3, z4⟩ := Z1.out.via hbq
    clear hI3 hs3 ha3 hO3 hbq
    simp only [Ar.v]
    go_wp2_with fail
    exact bodyPost_ret (v := .tuple #[.agg #[.slice sa3 sn3 sc3, .slice aa3 an3 ac3], .int .i64 ee]) (by simp [results, Try.results35, go_sem, *]) rfl HF.out
  · have hk' : (k == 2) = false := by simpa using hk
    rw [if_neg hk, if_neg hk, if_neg hk]
    obtain ⟨es, HES⟩ : ∃ z, Hid (adyS op s a t b = z) := ⟨_, rfl⟩
    obtain ⟨ea, HEA⟩ : ∃ z, Hid (adyA op s a t b = z) := ⟨_, rfl⟩
    obtain ⟨ee, HEE⟩ : ∃ z, Hid (adyE op s a t b = z) := ⟨_, rfl⟩
    rw [HES.out, HEA.out, HEE.out] at CD ⊢
    go_enter Try.func35, Try.ntmps35
    go_wp2_with fail
    rw [HW.out]
    refine CD.out.mono ?_; rintro e w3 ⟨⟨sa3, sn3, sc3, aa3, an3, ac3, s3, a3⟩, rfl, hI3, hs3, ha3, hO3, hbq⟩
    have HF := Lib.hid (made_move ee hI3 hs3 ha3 hO3 (abvia HWB.out hbq) (b := w.heap.size + 1) (by omega) (by have := SZ.out; omega) 55 (.slice sa3 sn3 sc3) (.slice aa3 an3 ac3))
    simp only at HF
    obtain ⟨z0, z1, z2, z3, z4⟩ := Z1.out.via hbq
    clear hI3 hs3 ha3 hO3 hbq
    simp only [Ar.v]
    go_wp2_with fail
    exact bodyPost_ret (v := .tuple #[.agg #[.slice sa3 sn3 sc3, .slice aa3 an3 ac3], .int .i64 ee]) (by simp [results, Try.results35, go_sem, *]) rfl HF.out
set_option maxRecDepth 100000 in
set_option maxHeartbeats 1600000 in
theorem meant5_any {w : World} {X Y : Ar} (hX : X.Is w) (hY : Y.Is w) (k op n : Int) :
    Calls Try.prog 33 #[.agg (Opv.cells ⟨k, op, n, X, Y⟩)] w (MadeE w (if k = 2 then amoS op Y.s Y.a else adyS op X.s X.a Y.s Y.a) (if k = 2 then amoA op Y.s Y.a else adyA op X.s X.a Y.s Y.a) (if k = 2 then amoE op Y.s Y.a else adyE op X.s X.a Y.s Y.a)) := by
  obtain ⟨sa, sn, sc, aa, an, ac, s, a⟩ := X
  obtain ⟨ta, tn, tc, ba, bn, bc, t, b⟩ := Y
  simp only [Opv.cells]
  obtain ⟨W, HW⟩ : ∃ z, Hid ((w.alloc (.cells #[.int .i64 k, .int .i64 op, .int .i64 n, .slice sa sn sc, .slice aa an ac, .slice ta tn tc, .slice ba bn bc] 75)).alloc (.cells #[.slice none 0 0, .slice none 0 0] 55) = z) := ⟨_, rfl⟩
  have hw : Below w.heap.size w W := by rw [← HW.out]; exact abvia (abal _ _) (abal _ _)
  have hsz : W.heap.size = w.heap.size + 1 + 1 := by rw [← HW.out]; simp
  have BZ : BoxA W (w.heap.size + 1) (.slice none 0 0) (.slice none 0 0) := by rw [← HW.out]; simpa using BoxA.new (w.alloc (.cells #[.int .i64 k, .int .i64 op, .int .i64 n, .slice sa sn sc, .slice aa an ac, .slice ta tn tc, .slice ba bn bc] 75)) 55 (.slice none 0 0) (.slice none 0 0)
  have CM := Lib.hid (r5monad_any (hY.via hw) op)
  have CD := Lib.hid (r5dyad_any (hX.via hw) (hY.via hw) op)
  simp only [Ar.v] at CM CD
  have HWB := Lib.hid hw
  have SZ := Lib.hid hsz
  have Z1 := Lib.hid BZ
  clear hX hY hw hsz BZ
  by_cases hk : k = 2
  · subst hk
    rw [if_pos rfl, if_pos rfl, if_pos rfl]
    obtain ⟨es, HES⟩ : ∃ z, Hid (amoS op t b = z) := ⟨_, rfl⟩
    obtain ⟨ea, HEA⟩ : ∃ z, Hid (amoA op t b = z) := ⟨_, rfl⟩
    obtain ⟨ee, HEE⟩ : ∃ z, Hid (amoE op t b = z) := ⟨_, rfl⟩
    rw [HES.out, HEA.out, HEE.out] at CM ⊢
    go_enter Try.func33, Try.ntmps33
    go_wp2_with fail
    rw [HW.out]
    refine CM.out.mono ?_; rintro e w3 ⟨⟨sa3, sn3, sc3, aa3, an3, ac3, s3, a3⟩, rfl, hI3, hs3, ha3, hO3, hbq⟩
    have HF := Lib.hid (made_move ee hI3 hs3 ha3 hO3 (abvia HWB.out hbq) (b := w.heap.size + 1) (by omega) (by have := SZ.out; omega) 55 (.slice sa3 sn3 sc3) (.slice aa3 an3 ac3))
    simp only at HF
    obtain ⟨z0, z1, z2, z3, z4⟩ := Z1.out.via hbq
    clear hI3 hs3 ha3 hO3 hbq
    simp only [Ar.v]
    go_wp2_with fail
    exact bodyPost_ret (v := .tuple #[.agg #[.slice sa3 sn3 sc3, .slice aa3 an3 ac3], .int .i64 ee]) (by simp [results, Try.results33, go_sem, *]) rfl HF.out
  · have hk' : (k == 2) = false := by simpa using hk
    rw [if_neg hk, if_neg hk, if_neg hk]
    obtain ⟨es, HES⟩ : ∃ z, Hid (adyS op s a t b = z) := ⟨_, rfl⟩
    obtain ⟨ea, HEA⟩ : ∃ z, Hid (adyA op s a t b = z) := ⟨_, rfl⟩
    obtain ⟨ee, HEE⟩ : ∃ z, Hid (adyE op s a t b = z) := ⟨_, rfl⟩
    rw [HES.out, HEA.out, HEE.out] at CD ⊢
    go_enter Try.func33, Try.ntmps33
    go_wp2_with fail
    rw [HW.out]
    refine CD.out.mono ?_; rintro e w3 ⟨⟨sa3, sn3, sc3, aa3, an3, ac3, s3, a3⟩, rfl, hI3, hs3, ha3, hO3, hbq⟩
    have HF := Lib.hid (made_move ee hI3 hs3 ha3 hO3 (abvia HWB.out hbq) (b := w.heap.size + 1) (by omega) (by have := SZ.out; omega) 55 (.slice sa3 sn3 sc3) (.slice aa3 an3 ac3))
    simp only at HF
    obtain ⟨z0, z1, z2, z3, z4⟩ := Z1.out.via hbq
    clear hI3 hs3 ha3 hO3 hbq
    simp only [Ar.v]
    go_wp2_with fail
    exact bodyPost_ret (v := .tuple #[.agg #[.slice sa3 sn3 sc3, .slice aa3 an3 ac3], .int .i64 ee]) (by simp [results, Try.results33, go_sem, *]) rfl HF.out
end Go.Proofs.Ytdedbfbkakofgaa

namespace Go.Proofs.Ytdedbfbkakofgaa
open Go.RowKit Go.Lib
set_option linter.unusedVariables false
set_option linter.unusedSimpArgs false
attribute [local go_sem] alloc_drewN setCell_drewN

set_option maxHeartbeats 400000 in
theorem rscalar_any (n : Int) (w : World) (hn : -9223372036854775808 ≤ n ∧ n ≤ 9223372036854775807) :
    Calls Try.prog 67 #[.int .i64 n] w (MadeA w [] [n]) := by
  have HE : Hid (MadeA w [] [n] (.returned (.agg #[.slice none 0 0, .slice (some ⟨w.heap.size + 1, 0, none⟩) 1 1])) ((w.alloc (.cells #[.slice none 0 0, .slice (some ⟨w.heap.size + 1, 0, none⟩) 1 1] 55)).alloc (.cells #[.int .i64 n] 2))) := by
    have h := World.ownsRow_lit (base := w.heap.size) (e := 2) (size := 1) (w.alloc (.cells #[.slice none 0 0, .slice (some ⟨w.heap.size + 1, 0, none⟩) 1 1] 55)) #[.int .i64 n] 1 (by simp) (by simp [maxLen]) rfl
    have h' : World.ownsRow ((w.alloc (.cells #[.slice none 0 0, .slice (some ⟨w.heap.size + 1, 0, none⟩) 1 1] 55)).alloc (.cells #[.int .i64 n] 2)) w.heap.size 2 1 (.slice (some ⟨w.heap.size + 1, 0, none⟩) 1 1) 1 ([n].map (Value.int .i64)) := by simpa using h
    exact ⟨⟨none, 0, 0, some ⟨w.heap.size + 1, 0, none⟩, 1, 1, [], [n]⟩, rfl, ⟨Ls.zero _ _ (Nat.zero_le _), ls_of_own h' (show 1 * 8 ≤ 140737488351232 by omega) (rng_one hn)⟩, rfl, rfl, ⟨World.ownsRow_nil _ _ _ _, h', fun g h => by simp [Value.ownBlock] at h⟩, below_box2 _ _ _ _ _⟩
  clear hn
  go_enter Try.func67, Try.ntmps67
  go_wp2
  exact bodyPost_ret (v := .agg #[.slice none 0 0, .slice (some ⟨w.heap.size + 1, 0, none⟩) 1 1]) (by simp [results, Try.results67, go_sem, *]) rfl HE.out
set_option maxHeartbeats 400000 in
theorem rlist_big {w : World} {ao : Option Addr} {n c : Nat} {zs : List Int} (h : Ls w ao n c zs) (hb : 4096 < n) :
    Calls Try.prog 68 #[.slice ao n c] w (MadeE w [] [] 17) := by
  have hb' : (4096 : Int) < n := by omega
  have g1 := h.big
  clear h hb
  go_enter Try.func68, Try.ntmps68
  go_wp2
  exact bodyPost_ret (v := .tuple #[.agg #[.slice none 0 0, .slice none 0 0], .int .i64 17]) (by simp [results, Try.results68, go_sem, *]) rfl ⟨⟨none, 0, 0, none, 0, 0, [], []⟩, rfl, Ar.is_nil _, rfl, rfl, Ar.own_nil _ _, (Below.refl _ _).alloc (Nat.le_refl _) _⟩
set_option maxHeartbeats 400000 in
theorem ritems_any {w : World} {A : Ar} (hA : A.Is w) :
    Calls Try.prog 72 #[A.v] w (RetB w (.int .i64 (itE A.s A.a))) := by
  obtain ⟨sa, sn, sc, aa, an, ac, s, a⟩ := A
  obtain ⟨h1, h2⟩ := hA
  simp only [Ar.v] at *
  have hw : Below w.heap.size w (w.alloc (.cells #[.slice sa sn sc, .slice aa an ac] 55)) := below_one _ _ _ 0
  have h1' := h1.below hw (Nat.le_refl _)
  have M := Lib.hid (rmay3_any (A := ⟨sa, sn, sc, aa, an, ac, s, a⟩) ⟨h1', h2.below hw (Nat.le_refl _)⟩)
  simp only [Ar.v] at M
  have l1 := h1.len
  obtain ⟨e, HE⟩ : ∃ e, Hid (amE s a = e) := ⟨_, rfl⟩
  rw [HE.out] at M
  obtain ⟨r, HR⟩ : ∃ r, Hid (itE s a = r) := ⟨_, rfl⟩
  rw [HR.out]
  obtain ⟨W, HWW⟩ : ∃ W, Hid (w.alloc (.cells #[.slice sa sn sc, .slice aa an ac] 55) = W) := ⟨_, rfl⟩
  have c0 : W.cell? ⟨w.heap.size, 0, none⟩ = some (.slice sa sn sc) := by rw [← HWW.out]; simp [go_sem]
  have c1 : W.cell? ⟨w.heap.size, 1, none⟩ = some (.slice aa an ac) := by rw [← HWW.out]; simp [go_sem]
  have szW : w.heap.size < W.heap.size := by rw [← HWW.out]; simp
  rw [HWW.out] at M hw h1'
  have H1 := Lib.hid h1'
  have HW := Lib.hid hw
  have SZ := Lib.hid szW
  have C0 := Lib.hid c0
  by_cases he : e = 0
  · subst he
    by_cases hs : sn = 0
    · subst hs
      have HF : Hid (r = 1) := by show _ = _; rw [← HR.out]; simp [itE, HE.out, l1]
      clear h1 h2 hw l1 h1' szW c0
      go_enter Try.func72, Try.ntmps72
      go_wp2_with fail
      rw [HWW.out]
      refine M.out.mono ?_; rintro e w' ⟨rfl, hb⟩
      have d0 : w'.cell? ⟨w.heap.size, 0, none⟩ = some (.slice sa 0 sc) := (hb.cell SZ.out).trans C0.out
      have HB : Hid (Below w.heap.size w w') := HW.out.trans (hb.mono (Nat.le_of_lt SZ.out))
      clear hb c1
      go_wp2
      go_ret
      exact RetB.mk (intv HF.out.symm) HB.out
    · have HF : Hid (r = s.getD 0 0) := by show _ = _; rw [← HR.out]; simp [itE, HE.out, show ¬ s.length = 0 by omega]
      have hs' : ((sn : Int) == 0) = false := by simpa using hs
      have hs2 : 0 < sn := by omega
      have hs3 : (sn == 0) = false := by simpa using hs
      have hs4 : (0 : Int) < sn := by omega
      clear h1 h2 hw l1 h1' szW c0 hs
      go_enter Try.func72, Try.ntmps72
      go_wp2_with fail
      rw [HWW.out]
      refine M.out.mono ?_; rintro e w' ⟨rfl, hb⟩
      have d0 : w'.cell? ⟨w.heap.size, 0, none⟩ = some (.slice sa sn sc) := (hb.cell SZ.out).trans C0.out
      obtain ⟨b1, o1, rfl, hc1⟩ := (H1.out.below hb (Nat.le_refl _)).at hs2
      have d1 := hc1 0 hs2
      rw [Nat.add_zero] at d1
      have HB : Hid (Below w.heap.size w w') := HW.out.trans (hb.mono (Nat.le_of_lt SZ.out))
      obtain ⟨x, HX⟩ : ∃ x, Hid (s.getD 0 0 = x) := ⟨_, rfl⟩
      rw [HX.out] at d1 HF
      clear hb c1 hc1
      go_wp2
      go_ret
      exact RetB.mk (intv HF.out.symm) HB.out
  · have he' : (e != 0) = true := by simpa using he
    have HF : Hid (r = 0) := by show _ = _; rw [← HR.out]; simp [itE, HE.out, he]
    clear h1 h2 hw l1 h1' szW c0 he
    go_enter Try.func72, Try.ntmps72
    go_wp2_with fail
    rw [HWW.out]
    refine M.out.mono ?_; rintro e w' ⟨rfl, hb⟩
    have HB : Hid (Below w.heap.size w w') := HW.out.trans (hb.mono (Nat.le_of_lt SZ.out))
    clear hb c1
    go_wp2
    go_ret
    exact RetB.mk (intv HF.out.symm) HB.out
set_option maxRecDepth 100000 in
set_option maxHeartbeats 1600000 in
theorem rlist_ok {w : World} {ao : Option Addr} {n c : Nat} {zs : List Int} (h : Ls w ao n c zs) (hb : n ≤ 4096) :
    Calls Try.prog 68 #[.slice ao n c] w (MadeE w [(n : Int)] zs 0) := by
  have hb' : ¬ (4096 : Int) < n := by omega
  have hb2 : (n : Int) ≤ 4096 := by omega
  obtain ⟨W, HW⟩ : ∃ z, Hid ((w.alloc (.cells #[.slice none 0 0, .slice none 0 0] 55)).alloc (.cells #[.int .i64 n] 3) = z) := ⟨_, rfl⟩
  have hw : Below w.heap.size w W := by rw [← HW.out]; exact below_box2 _ _ _ _ _
  have hsz : W.heap.size = w.heap.size + 2 := by rw [← HW.out]; simp
  have hO : W.ownsRow (w.heap.size + 1) 3 1 (.slice (some ⟨w.heap.size + 1, 0, none⟩) 1 1) 1 ([(n : Int)].map (Value.int .i64)) := by
    rw [← HW.out]
    have h := World.ownsRow_lit (base := (w.alloc (.cells #[.slice none 0 0, .slice none 0 0] 55)).heap.size) (e := 3) (size := 1) (w.alloc (.cells #[.slice none 0 0, .slice none 0 0] 55)) #[.int .i64 n] 1 (Nat.le_refl _) (by simp [maxLen]) rfl
    simpa using h
  have B0 : BoxA W w.heap.size (.slice none 0 0) (.slice none 0 0) := by
    rw [← HW.out]
    exact ⟨by simp [go_sem], by simp [go_sem], by simp [go_sem], by simp [go_sem], by simp; omega⟩
  have HLW := Lib.hid (h.below hw (Nat.le_refl _))
  have HWB := Lib.hid hw
  have SZ := Lib.hid hsz
  have HO := Lib.hid hO
  have HB0 := Lib.hid B0
  have HRG := Lib.hid h.rng
  obtain ⟨i0, hi, hz0, hz1, hz2⟩ := info_parts (P := Try.prog) (e := 2) (z := .int .i64 0) (size := 1) (bytes := 8) (by kernel_rfl)
  have hbd : (0 + n) * 8 ≤ 140737488355328 := by omega
  have HOZ : Hid (W.ownsRow W.heap.size 2 1 (.slice none 0 0) 0 (([] : List Int).map (Value.int .i64))) := World.ownsRow_nil _ _ _ _
  have HOY : Hid (((w.alloc (.cells #[.slice none 0 0, .slice none 0 0] 55)).alloc (.cells #[.int .i64 n] 3)).ownsRow W.heap.size 2 1 (.slice none 0 0) 0 (([] : List Int).map (Value.int .i64))) := World.ownsRow_nil _ _ _ _
  have HLY : Hid (Ls ((w.alloc (.cells #[.slice none 0 0, .slice none 0 0] 55)).alloc (.cells #[.int .i64 n] 3)) ao n c zs) := by rw [HW.out]; exact HLW
  have HBY : Hid (W.heap.size ≤ ((w.alloc (.cells #[.slice none 0 0, .slice none 0 0] 55)).alloc (.cells #[.int .i64 n] 3)).heap.size) := by rw [HW.out]; exact Nat.le_refl _
  clear h hw hsz hO B0 hb
  go_enter Try.func68, Try.ntmps68
  go_wp2_with (at_builtin; refine wpList_append_loc _ rfl _ _ 50 rfl W.heap.size 2 i0 Try.underlying50 hi hz0 hz1 hz2 _ 0 [] rfl HOY.out rfl HLY.out hbd HBY.out ?_)
  intro bo d w5 hO5 hG5 hl5 hn5
  rw [HW.out] at hG5
  have hB5 : Below W.heap.size W w5 := (Below.refl _ _).grown hG5 (Nat.le_refl _) (fun k hk => by simp [Value.ownBlock] at hk)
  have HE : Hid (∀ u v, MadeE w [(n : Int)] zs 0 (.returned (.tuple #[.agg #[.slice (some ⟨w.heap.size + 1, 0, none⟩) 1 1, .slice bo n d], .int .i64 0])) ((w5.setCell ⟨w.heap.size, 0, none⟩ u).setCell ⟨w.heap.size, 1, none⟩ v)) := by
    intro u v
    have hO6 : w5.ownsRow W.heap.size 2 1 (.slice bo n d) n (zs.map (Value.int .i64)) := by simpa using hO5
    exact made_two 0 (w1 := w.alloc (.cells #[.slice none 0 0, .slice none 0 0] 55)) (abal _ _) (Nat.le_refl _) (by simp)
      (by
        have h1 : Below (w.heap.size + 1) (w.alloc (.cells #[.slice none 0 0, .slice none 0 0] 55)) W := by rw [← HW.out]; simpa using abal (w.alloc (.cells #[.slice none 0 0, .slice none 0 0] 55)) (.cells #[.int .i64 n] 3)
        have h2 := h1.trans (hB5.mono (by have := SZ.out; omega))
        simpa using h2)
      (by
        have h3 := own_below HO.out hB5 (Nat.le_refl _)
        simpa using h3) (B2 := W.heap.size) (by have := SZ.out; simp; omega) hO6 (fun g hg => by
        have h4 := (own_block HO.out hg).2
        omega) (by omega) (by omega) (rng_one (by omega)) HRG.out u v
  obtain ⟨k0, k1, k2, k3, k4⟩ := HB0.out.via hB5
  clear hO5 hG5 hl5 hn5 hB5
  go_wp2_with fail
  exact bodyPost_ret (v := .tuple #[.agg #[.slice (some ⟨w.heap.size + 1, 0, none⟩) 1 1, .slice bo n d], .int .i64 0]) (by simp [results, Try.results68, go_sem, *]) rfl (HE.out _ _)
set_option maxHeartbeats 400000 in
theorem rbefore_any (b : Bool) (w : World) : Calls Try.prog 106 #[.bool b] w (RetS w (.int .i64 (if b then -1 else 1))) := by
  cases b
  · go_enter Try.func106, Try.ntmps106
    go_wp2
    go_ret
    exact RetS.mk rfl
  · go_enter Try.func106, Try.ntmps106
    go_wp2
    go_ret
    exact RetS.mk rfl
end Go.Proofs.Ytdedbfbkakofgaa

namespace Go.Proofs.Ytdedbfbkakofgaa
open Go.RowKit Go.Lib
set_option linter.unusedVariables false
set_option linter.unusedSimpArgs false
attribute [local go_sem] alloc_drewN setCell_drewN

theorem rbefore_t (w : World) : Calls Try.prog 106 #[.bool true] w (RetS w (.int .i64 (-1))) := rbefore_any true w
theorem rbefore_f (w : World) : Calls Try.prog 106 #[.bool false] w (RetS w (.int .i64 1)) := rbefore_any false w
theorem cmpA_lt {A B : Ar} (h : A.sn < B.sn) : cmpA A B = -1 := by
  have : cmpI A.sn B.sn = -1 := cmpI_lt (by omega)
  simp [cmpA, orL, this]
theorem cmpA_gt {A B : Ar} (h : B.sn < A.sn) : cmpA A B = 1 := by
  have : cmpI A.sn B.sn = 1 := cmpI_gt (by omega)
  simp [cmpA, orL, this]
theorem cmpA_ne {A B : Ar} (h : A.sn = B.sn) (h2 : cmpL A.s B.s ≠ 0) : cmpA A B = cmpL A.s B.s := by
  have : cmpI A.sn B.sn = 0 := by rw [h]; exact cmpI_eq _
  simp [cmpA, orL, this, h2]
theorem cmpA_eq {A B : Ar} (h : A.sn = B.sn) (h2 : cmpL A.s B.s = 0) : cmpA A B = cmpL A.a B.a := by
  have : cmpI A.sn B.sn = 0 := by rw [h]; exact cmpI_eq _
  simp only [cmpA, orL, this, h2, if_true]
  split
  · rename_i h3; rw [h3]
  · rfl
set_option maxRecDepth 100000 in
set_option maxHeartbeats 3200000 in
theorem rcompare_any {w : World} {A B : Ar} (hA : A.Is w) (hB : B.Is w) :
    Calls Try.prog 74 #[A.v, B.v] w (RetB w (.int .i64 (cmpA A B))) := by
  obtain ⟨r, HR⟩ : ∃ r, Hid (cmpA A B = r) := ⟨_, rfl⟩
  have P1 := Lib.hid (cmpA_lt (A := A) (B := B))
  have P2 := Lib.hid (cmpA_gt (A := A) (B := B))
  have P3 := Lib.hid (cmpA_ne (A := A) (B := B))
  have P4 := Lib.hid (cmpA_eq (A := A) (B := B))
  rw [HR.out] at P1 P2 P3 P4
  rw [HR.out]
  clear HR
  obtain ⟨sa, sn, sc, aa, an, ac, s, a⟩ := A
  obtain ⟨ta, tn, tc, ba, bn, bc, t, b⟩ := B
  obtain ⟨h1, h2⟩ := hA
  obtain ⟨h3, h4⟩ := hB
  simp only [Ar.v] at *
  have l1 := h1.len
  have l2 := h2.len
  have l3 := h3.len
  have l4 := h4.len
  have g1 := h1.big
  have g2 := h2.big
  have g3 := h3.big
  have g4 := h4.big
  have BT := Lib.hid rbefore_t
  have BF := Lib.hid rbefore_f
  rcases (show sn < tn ∨ tn < sn ∨ sn = tn by omega) with hst | hst | hst
  · have hr : Hid (r = -1) := P1.out hst
    have hne : ((sn : Int) != tn) = true := by simp; omega
    have hne' : (sn != tn) = true := by simp; omega
    have hlt : (sn : Int) < tn := by omega
    clear P1 P2 P3 P4 l1 l2 l3 l4 h1 h2 h3 h4
    go_enter Try.func74, Try.ntmps74
    go_wp2_with fail
    refine (BT.out _).mono ?_; rintro e w' ⟨rfl, rfl⟩
    go_wp2
    go_ret
    exact RetB.mk (intv hr.out.symm) (below_two _ _ _ _ _ 0)
  · have hr : Hid (r = 1) := P2.out hst
    have hne : ((sn : Int) != tn) = true := by simp; omega
    have hne' : (sn != tn) = true := by simp; omega
    have hlt : ¬ (sn : Int) < tn := by omega
    have hlt2 : (tn : Int) ≤ sn := by omega
    have hd : decide (sn < tn) = false := by simp; omega
    clear P1 P2 P3 P4 l1 l2 l3 l4 h1 h2 h3 h4
    go_enter Try.func74, Try.ntmps74
    go_wp2_with fail
    refine (BF.out _).mono ?_; rintro e w' ⟨rfl, rfl⟩
    go_wp2
    go_ret
    exact RetB.mk (intv hr.out.symm) (below_two _ _ _ _ _ 0)
  subst hst
  have Q3 : Hid (cmpL s t ≠ 0 → r = cmpL s t) := P3.out rfl
  have Q4 : Hid (cmpL s t = 0 → r = cmpL a b) := P4.out rfl
  clear P1 P2 P3 P4
  obtain ⟨W, HWW⟩ : ∃ W, Hid ((w.alloc (.cells #[.slice sa sn sc, .slice aa an ac] 55)).alloc (.cells #[.slice ta sn tc, .slice ba bn bc] 55) = W) := ⟨_, rfl⟩
  have hw : Below w.heap.size w W := by rw [← HWW.out]; exact below_two _ _ _ _ _ 0
  have c0 : W.cell? ⟨w.heap.size, 0, none⟩ = some (.slice sa sn sc) := by rw [← HWW.out]; simp [go_sem]
  have c1 : W.cell? ⟨w.heap.size, 1, none⟩ = some (.slice aa an ac) := by rw [← HWW.out]; simp [go_sem]
  have c2 : W.cell? ⟨w.heap.size + 1, 0, none⟩ = some (.slice ta sn tc) := by rw [← HWW.out]; simp [go_sem]
  have c3 : W.cell? ⟨w.heap.size + 1, 1, none⟩ = some (.slice ba bn bc) := by rw [← HWW.out]; simp [go_sem]
  have H1 := Lib.hid (h1.below hw (Nat.le_refl _))
  have H2 := Lib.hid (h2.below hw (Nat.le_refl _))
  have H3 := Lib.hid (h3.below hw (Nat.le_refl _))
  have H4 := Lib.hid (h4.below hw (Nat.le_refl _))
  have L1 := Lib.hid l1
  have L2 := Lib.hid l2
  have L3 := Lib.hid l3
  have L4 := Lib.hid l4
  have HW := Lib.hid hw
  have q1 : ((sn : Int) != sn) = false := by simp
  clear h1 h2 h3 h4 l1 l2 l3 l4 hw
  go_enter Try.func74, Try.ntmps74
  go_wp2
  rw [HWW.out]
  clear q1
  go_loopw [5] (fun i wr => ∃ k : Nat, k ≤ sn ∧ i = .int .i64 k ∧ Hid (cmpL (s.drop k) (t.drop k) = cmpL s t) ∧ ∃ q, wr = W.drewN q) (fun i _ => sn - (Go.RowKit.intOf i).toNat)
  case atStart => exact ⟨0, Nat.zero_le _, rfl, rfl, 0, rfl⟩
  case round =>
    obtain ⟨k, hk, rfl, hs, q, rfl⟩ := hrel
    by_cases hlt : k < sn
    · have hlt' : (k : Int) < sn := by omega
      obtain ⟨b1, o1, rfl, hc1⟩ := H1.out.at (by omega)
      obtain ⟨b2, o2, rfl, hc2⟩ := H3.out.at (by omega)
      have d1 := hc1 k hlt
      have d2 := hc2 k hlt
      clear hc1 hc2
      have hst := cmpL_step (xs := s) (ys := t) (k := k) (by rw [L1.out]; exact hlt) (by rw [L3.out]; exact hlt)
      rw [hs.out] at hst
      obtain ⟨x, HX⟩ : ∃ x, Hid (s.getD k 0 = x) := ⟨_, rfl⟩
      obtain ⟨y, HY⟩ : ∃ y, Hid (t.getD k 0 = y) := ⟨_, rfl⟩
      rw [HX.out] at d1 hst
      rw [HY.out] at d2 hst
      have HST := Lib.hid hst
      clear hst
      rcases (show x < y ∨ x = y ∨ y < x by omega) with h | rfl | h
      · have hne : (x != y) = true := by simp; omega
        have hr : Hid (r = -1) := by
          have e : cmpL s t = -1 := by rw [HST.out, if_pos h]
          exact (Q3.out (by rw [e]; decide)).trans e
        go_wp2
        go_quiet (fail)
        go_wp2_with fail
        refine region_tail 11 (by kernel_rfl) (by kernel_rfl) ?_
        simp only [List.take_succ_cons, List.take_zero, List.drop_succ_cons, List.drop_zero]
        iterate 11 still_step
        refine wpStill_nil ?_
        go_wp2_with fail
        refine (BT.out _).mono ?_; rintro e w' ⟨rfl, rfl⟩
        go_wp2
        go_ret
        exact RetB.mk (intv hr.out.symm) (below_drewN HW.out _)
      · have hs' : Hid (cmpL (s.drop (k + 1)) (t.drop (k + 1)) = cmpL s t) := by show _ = _; rw [HST.out, if_neg (by omega), if_neg (by omega)]
        go_wp2
        go_quiet (fail)
        go_wp2
        go_roundw
        case rel => exact ⟨k + 1, by omega, by go_num, hs', _, rfl⟩
        case measure => simp [Go.RowKit.intOf]; omega
      · have hne : (x != y) = true := by simp; omega
        have hlt2 : ¬ x < y := by omega
        have hle2 : y ≤ x := by omega
        have hr : Hid (r = 1) := by
          have e : cmpL s t = 1 := by rw [HST.out, if_neg (by omega), if_pos h]
          exact (Q3.out (by rw [e]; decide)).trans e
        have BD := Lib.hid (fun w => rbefore_any (decide (x < y)) w)
        go_wp2
        go_quiet (fail)
        go_wp2_with fail
        refine region_tail 11 (by kernel_rfl) (by kernel_rfl) ?_
        simp only [List.take_succ_cons, List.take_zero, List.drop_succ_cons, List.drop_zero]
        iterate 11 still_step
        refine wpStill_nil ?_
        go_wp2_with fail
        refine (BD.out _).mono ?_; rintro e w' ⟨rfl, rfl⟩
        go_wp2
        go_ret
        exact RetB.mk (intv hr.out.symm) (below_drewN HW.out _)
    · have HRA : Hid (cmpL (a.drop 0) (b.drop 0) = r) := by
        refine (Q4.out ?_).symm
        rw [← hs.out, List.drop_eq_nil_of_le (by rw [L1.out]; omega), List.drop_eq_nil_of_le (by rw [L3.out]; omega)]; rfl
      have hge : (sn : Int) ≤ k := by omega
      clear hs hlt Q3 Q4
      go_wp2
      go_loopw [6] (fun i wr => ∃ k : Nat, k ≤ an ∧ k ≤ bn ∧ i = .int .i64 k ∧ Hid (cmpL (a.drop k) (b.drop k) = r) ∧ ∃ q, wr = W.drewN q) (fun i _ => an - (Go.RowKit.intOf i).toNat)
      case atStart => exact ⟨0, Nat.zero_le _, Nat.zero_le _, rfl, HRA, q, rfl⟩
      case round =>
        obtain ⟨k2, hk2, hk3, rfl, hs, q2, rfl⟩ := hrel
        rcases (show (k2 < an ∧ k2 < bn) ∨ (k2 = an ∧ an < bn) ∨ (k2 = an ∧ an = bn) ∨ (k2 = bn ∧ bn < an) by omega) with ⟨hlt, hlt3⟩ | ⟨e1, e2⟩ | ⟨e1, e2⟩ | ⟨e1, e2⟩
        · have hlt' : (k2 : Int) < an := by omega
          have hlt3' : (k2 : Int) < bn := by omega
          have u1 : decide (k2 < an) = true := by simpa using hlt
          have u2 : decide (k2 < bn) = true := by simpa using hlt3
          obtain ⟨b1, o1, rfl, hc1⟩ := H2.out.at (by omega)
          obtain ⟨b2, o2, rfl, hc2⟩ := H4.out.at (by omega)
          have d1 := hc1 k2 hlt
          have d2 := hc2 k2 hlt3
          clear hc1 hc2
          have hst := cmpL_step (xs := a) (ys := b) (k := k2) (by rw [L2.out]; exact hlt) (by rw [L4.out]; exact hlt3)
          rw [hs.out] at hst
          obtain ⟨x, HX⟩ : ∃ x, Hid (a.getD k2 0 = x) := ⟨_, rfl⟩
          obtain ⟨y, HY⟩ : ∃ y, Hid (b.getD k2 0 = y) := ⟨_, rfl⟩
          rw [HX.out] at d1 hst
          rw [HY.out] at d2 hst
          have HST := Lib.hid hst
          clear hst
          rcases (show x < y ∨ x = y ∨ y < x by omega) with h | rfl | h
          · have hne : (x != y) = true := by simp; omega
            have hr : Hid (r = -1) := by show _ = _; rw [HST.out, if_pos h]
            go_wp2
            go_quiet (fail)
            go_wp2_with fail
            refine region_tail 11 (by kernel_rfl) (by kernel_rfl) ?_
            simp only [List.take_succ_cons, List.take_zero, List.drop_succ_cons, List.drop_zero]
            iterate 11 still_step
            refine wpStill_nil ?_
            go_wp2_with fail
            refine (BT.out _).mono ?_; rintro e w' ⟨rfl, rfl⟩
            go_wp2
            go_ret
            exact RetB.mk (intv hr.out.symm) (below_drewN HW.out _)
          · have hs' : Hid (cmpL (a.drop (k2 + 1)) (b.drop (k2 + 1)) = r) := by show _ = _; rw [HST.out, if_neg (by omega), if_neg (by omega)]
            go_wp2
            go_quiet (fail)
            go_wp2
            go_roundw
            case rel => exact ⟨k2 + 1, by omega, by omega, by go_num, hs', _, rfl⟩
            case measure => simp [Go.RowKit.intOf]; omega
          · have hne : (x != y) = true := by simp; omega
            have hlt2 : ¬ x < y := by omega
            have hle2 : y ≤ x := by omega
            have hr : Hid (r = 1) := by show _ = _; rw [HST.out, if_neg (by omega), if_pos h]
            have BD := Lib.hid (fun w => rbefore_any (decide (x < y)) w)
            go_wp2
            go_quiet (fail)
            go_wp2_with fail
            refine region_tail 11 (by kernel_rfl) (by kernel_rfl) ?_
            simp only [List.take_succ_cons, List.take_zero, List.drop_succ_cons, List.drop_zero]
            iterate 11 still_step
            refine wpStill_nil ?_
            go_wp2_with fail
            refine (BD.out _).mono ?_; rintro e w' ⟨rfl, rfl⟩
            go_wp2
            go_ret
            exact RetB.mk (intv hr.out.symm) (below_drewN HW.out _)
        · subst e1
          have hr : Hid (r = -1) := by show _ = _; rw [← hs.out, cmpL_end (by rw [L2.out]; omega), if_pos (by rw [L4.out]; exact e2)]
          have u1 : decide (k2 < k2) = false := by simp
          have u2 : ((k2 : Int) != bn) = true := by simp; omega
          have u3 : (k2 != bn) = true := by simp; omega
          have u4 : (k2 : Int) < bn := by omega
          clear hs HRA
          go_wp2_with fail
          refine (BT.out _).mono ?_; rintro e w' ⟨rfl, rfl⟩
          go_wp2
          go_ret
          exact RetB.mk (intv hr.out.symm) (below_drewN HW.out _)
        · subst e1
          subst e2
          have hr : Hid (r = 0) := by show _ = _; rw [← hs.out, cmpL_end (by rw [L2.out]; omega), if_neg (by rw [L4.out]; omega)]
          have u1 : decide (k2 < k2) = false := by simp
          have u2 : ((k2 : Int) != k2) = false := by simp
          clear hs HRA
          go_wp2
          go_ret
          exact RetB.mk (intv hr.out.symm) (below_drewN HW.out _)
        · subst e1
          have hr : Hid (r = 1) := by show _ = _; rw [← hs.out, cmpL_long (by rw [L2.out]; exact e2) (by rw [L4.out]; omega)]
          have u1 : decide (k2 < an) = true := by simpa using e2
          have u0 : (k2 : Int) < an := by omega
          have u7 : decide (k2 < k2) = false := by simp
          have u2 : ((an : Int) != k2) = true := by simp; omega
          have u3 : (an != k2) = true := by simp; omega
          have u4 : ¬ (an : Int) < k2 := by omega
          have u5 : (k2 : Int) ≤ an := by omega
          have u6 : decide (an < k2) = false := by simp; omega
          clear hs HRA
          go_wp2_with fail
          refine (BF.out _).mono ?_; rintro e w' ⟨rfl, rfl⟩
          go_wp2
          go_ret
          exact RetB.mk (intv hr.out.symm) (below_drewN HW.out _)
theorem orL_zero : ∀ xs : List Int, orL xs = 0 ↔ ∀ x ∈ xs, x = 0
  | [] => by simp [orL]
  | x :: xs => by
    unfold orL
    split
    · rename_i h; rw [orL_zero xs]; simp [h]
    · rename_i h; simp [h]
end Go.Proofs.Ytdedbfbkakofgaa

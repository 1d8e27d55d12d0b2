/- Contract of plays of layers 8 and 6: one call, what is handed in lying in two hands; over contracts of the layer's package and of the document's. -/
import Derived.Test.YtoippfoeghjdoaaHandsXY
import Derived.Test.YtoippfoeghjdoaaOpenOpsV
import Derived.Test.YtoippfoeghjdoaaEq4
import Derived.Deep.RegionHeld3
import Derived.Deep.Cut
import Derived.BigQuiet
namespace Go.Proofs.Ytoippfoeghjdoaa
open Go.RowKit Go.Lib
set_option linter.unusedVariables false
set_option linter.unusedSimpArgs false
attribute [local go_sem] alloc_drewN setCell_drewN
/-- What a call keeps of the other rows. -/
structure Kq (Q Qy : Nat × Nat × Nat → Rw) (b0 : Rw) : Prop where
  five : Qy (5, 0, 0) = Q (5, 0, 0)
  n0 : Qy (9, 9, 0) = Rw.nil
  n1 : Qy (9, 9, 1) = Rw.nil
  op : Qy (7, 0, 0) = b0
theorem Kq.upd {Q Qy : Nat × Nat × Nat → Rw} {b0 : Rw} (h : Kq Q Qy b0) {t : Nat × Nat × Nat} {r : Rw} (ht : t.1 = 6 ∨ (t.1 = 7 ∧ t.2.1 ≠ 0)) : Kq Q (updR Qy t r) b0 := by
  have n : ∀ s : Nat × Nat × Nat, (s.1 = 5 ∨ s.1 = 9 ∨ s = (7, 0, 0)) → s ≠ t := fun s hs e => by
    subst e
    rcases hs with h | h | h <;> rcases ht with h' | ⟨h1, h2⟩ <;> simp_all
  exact ⟨(updR_ne (n _ (by simp))).trans h.five, (updR_ne (n _ (by simp))).trans h.n0, (updR_ne (n _ (by simp))).trans h.n1, (updR_ne (n _ (by simp))).trans h.op⟩
/-- The answer of a call: its box and its rows. -/
structure Ans (Qy : Nat × Nat × Nat → Rw) (k g : Nat) (B : Ar) : Prop where
  box : Qy (7, k, 0) = ⟨38, 2, some ⟨g, 0, none⟩, 1, 1, [.slice B.sa B.sn B.sc, .slice B.aa B.an B.ac]⟩
  s : Qy (6, k, 0) = rowS B
  a : Qy (6, k, 1) = rowA B
def PlQ (base : Nat) (w : World) (T : TypeId) (hb : Nat) (Q : Nat × Nat × Nat → Rw) (e : Ending) (w' : World) : Prop :=
  e = .returned (.bool true) ∧ ∃ Q' : Nat × Nat × Nat → Rw, St4 base w T hb Q' none none w' ∧ Q' (5, 0, 0) = Q (5, 0, 0) ∧ Q' (9, 9, 0) = Rw.nil ∧ Q' (9, 9, 1) = Rw.nil
section
variable {base : Nat} {w wx : World} {Q : Nat × Nat × Nat → Rw} {hb : Nat} {has : Int → Int → Bool} {mon : Int → List Int → List Int → List Int × List Int × Int} {dya : Int → List Int → List Int → List Int → List Int → List Int × List Int × Int}
/-- What the layer's package and the document answer. -/
structure Pkg8 (has : Int → Int → Bool) (mon : Int → List Int → List Int → List Int × List Int × Int) (dya : Int → List Int → List Int → List Int → List Int → List Int × List Int × Int) : Prop where
  chas : ∀ (op v : Int) (w : World), Calls Try.prog 26 #[.int .i64 op, .int .i64 v] w (Ret w (.bool (has op v)))
  crhas : ∀ (op v : Int) (w : World), Calls Try.prog 29 #[.int .i64 op, .int .i64 v] w (Ret w (.bool (has op v)))
  cmon : ∀ {w : World} {Y : Ar}, Y.Is w → ∀ op : Int, Calls Try.prog 20 #[.int .i64 op, Y.v] w (MadeE w (mon op Y.s Y.a).1 (mon op Y.s Y.a).2.1 (mon op Y.s Y.a).2.2)
  crmon : ∀ {w : World} {Y : Ar}, Y.Is w → ∀ op : Int, Calls Try.prog 32 #[.int .i64 op, Y.v] w (MadeE w (mon op Y.s Y.a).1 (mon op Y.s Y.a).2.1 (mon op Y.s Y.a).2.2)
  cdya : ∀ {w : World} {X Y : Ar}, X.Is w → Y.Is w → ∀ op : Int, Calls Try.prog 24 #[.int .i64 op, X.v, Y.v] w (MadeE w (dya op X.s X.a Y.s Y.a).1 (dya op X.s X.a Y.s Y.a).2.1 (dya op X.s X.a Y.s Y.a).2.2)
  crdya : ∀ {w : World} {X Y : Ar}, X.Is w → Y.Is w → ∀ op : Int, Calls Try.prog 33 #[.int .i64 op, X.v, Y.v] w (MadeE w (dya op X.s X.a Y.s Y.a).1 (dya op X.s X.a Y.s Y.a).2.1 (dya op X.s X.a Y.s Y.a).2.2)
  cbegun : ∀ w : World, Calls Try.prog 9 #[] w (RetB w (.bool true))
set_option maxRecDepth 100000 in
set_option maxHeartbeats 6400000 in
theorem plays8_no (PK : Pkg8 has mon dya) {w0 : World} (H : St4 base w 32 hb Q none none wx) (hq : Q (9, 9, 0) = Rw.nil ∧ Q (9, 9, 1) = Rw.nil) {o : Opv} (hX : o.x.Is w0) (hY : o.y.Is w0) (h0 : w0.heap.size ≤ base) (hb0 : Below base w0 w) (hk : o.k ≠ 1 ∧ o.k ≠ 2 ∧ o.k ≠ 3) :
    Calls Try.prog 12 #[.pointer (some ⟨hb, 0, none⟩), .agg o.cells] wx (PlQ base w 32 hb Q) := by
  obtain ⟨kk, op, nn, ⟨sa, sn, sc, aa, an, ac, s, a⟩, ⟨ta, tn, tc, ba, bn, bc, t, b'⟩⟩ := o
  simp only [Opv.cells]
  simp only at hk hX hY
  have XX : Hid (∀ wy, Below base w wy → Ar.Is ⟨sa, sn, sc, aa, an, ac, s, a⟩ wy) := fun wy hy => hX.below (hb0.trans hy) h0
  have YY : Hid (∀ wy, Below base w wy → Ar.Is ⟨ta, tn, tc, ba, bn, bc, t, b'⟩ wy) := fun wy hy => hY.below (hb0.trans hy) h0
  have HX := Lib.hid hX
  have HY := Lib.hid hY
  have HPK := Lib.hid PK
  obtain ⟨b, HBB⟩ : ∃ z, Hid (wx.heap.size = z) := ⟨_, rfl⟩
  obtain ⟨W3, HW3⟩ : ∃ z, Hid (wx.alloc (.cells #[.int .i64 kk, .int .i64 op, .int .i64 nn, .slice sa sn sc, .slice aa an ac, .slice ta tn tc, .slice ba bn bc] 40) = z) := ⟨_, rfl⟩
  have hlb : b < W3.heap.size := by rw [← HBB.out, ← HW3.out]; simp
  have SX := H.alloc (t := (7, 0, 0)) (by simp) (cs := #[.int .i64 kk, .int .i64 op, .int .i64 nn, .slice sa sn sc, .slice aa an ac, .slice ta tn tc, .slice ba bn bc]) (E := 40) (sz := 7) (n := 1) rfl (by decide)
  rw [HW3.out, HBB.out] at SX
  obtain ⟨Q3, HQ3⟩ : ∃ z, Hid (updR Q (7, 0, 0) ⟨40, 7, some ⟨b, 0, none⟩, 1, 1, (#[.int .i64 kk, .int .i64 op, .int .i64 nn, .slice sa sn sc, .slice aa an ac, .slice ta tn tc, .slice ba bn bc] : Array Value).toList⟩ = z) := ⟨_, rfl⟩
  rw [HQ3.out] at SX
  have K3 : Hid (Kq Q Q3 ⟨40, 7, some ⟨b, 0, none⟩, 1, 1, (#[.int .i64 kk, .int .i64 op, .int .i64 nn, .slice sa sn sc, .slice aa an ac, .slice ta tn tc, .slice ba bn bc] : Array Value).toList⟩) := by
    rw [← HQ3.out]
    exact ⟨updR_ne (by simp), (updR_ne (by simp)).trans hq.1, (updR_ne (by simp)).trans hq.2, updR_eq⟩
  have PP : Hid (∀ (wy : World) (Qy : Nat × Nat × Nat → Rw) (h1 h2 : Option (Rw × Rw)), St4 base w 32 hb Qy h1 h2 wy → Kq Q Qy ⟨40, 7, some ⟨b, 0, none⟩, 1, 1, (#[.int .i64 kk, .int .i64 op, .int .i64 nn, .slice sa sn sc, .slice aa an ac, .slice ta tn tc, .slice ba bn bc] : Array Value).toList⟩ → wy.cell? ⟨b, 1, none⟩ = some (.int .i64 op) ∧ wy.cell? ⟨b, 2, none⟩ = some (.int .i64 nn) ∧ wy.cell? ⟨b, 3, none⟩ = some (.slice sa sn sc) ∧ wy.cell? ⟨b, 4, none⟩ = some (.slice aa an ac) ∧ wy.cell? ⟨b, 5, none⟩ = some (.slice ta tn tc) ∧ wy.cell? ⟨b, 6, none⟩ = some (.slice ba bn bc)) :=
    fun wy Qy h1 h2 h e => ⟨h.cell (by simp) e.op 1 _ rfl, h.cell (by simp) e.op 2 _ rfl, h.cell (by simp) e.op 3 _ rfl, h.cell (by simp) e.op 4 _ rfl, h.cell (by simp) e.op 5 _ rfl, h.cell (by simp) e.op 6 _ rfl⟩
  have k0 := SX.cell (by simp) K3.out.op 0 _ rfl
  obtain ⟨p1, p2, p3, p4, p5, p6⟩ := PP.out W3 Q3 none none SX K3.out
  have SX := Lib.hid SX
  clear H hX hY h0 hb0 HQ3 hq PK
  have q1 : (kk == 1) = false := by simpa using hk.1
  have q2 : (kk == 2) = false := by simpa using hk.2.1
  have q3 : (kk == 3) = false := by simpa using hk.2.2
  have HF : Hid (PlQ base w 32 hb Q (.returned (.bool true)) W3) := ⟨rfl, Q3, SX.out, K3.out.five, K3.out.n0, K3.out.n1⟩
  clear hk p1 p2 p3 p4 p5 p6
  go_enter Try.func12, Try.ntmps12
  go_upto_region 1 with fail
  rw [HW3.out, HBB.out]
  go_wp2
  go_ret
  exact HF.out
set_option maxRecDepth 100000 in
set_option maxHeartbeats 6400000 in
theorem plays8_has (PK : Pkg8 has mon dya) {w0 : World} (H : St4 base w 32 hb Q none none wx) (hq : Q (9, 9, 0) = Rw.nil ∧ Q (9, 9, 1) = Rw.nil) {o : Opv} (hX : o.x.Is w0) (hY : o.y.Is w0) (h0 : w0.heap.size ≤ base) (hb0 : Below base w0 w) (hk : o.k = 1) :
    Calls Try.prog 12 #[.pointer (some ⟨hb, 0, none⟩), .agg o.cells] wx (PlQ base w 32 hb Q) := by
  obtain ⟨kk, op, nn, ⟨sa, sn, sc, aa, an, ac, s, a⟩, ⟨ta, tn, tc, ba, bn, bc, t, b'⟩⟩ := o
  simp only [Opv.cells]
  simp only at hk hX hY
  have XX : Hid (∀ wy, Below base w wy → Ar.Is ⟨sa, sn, sc, aa, an, ac, s, a⟩ wy) := fun wy hy => hX.below (hb0.trans hy) h0
  have YY : Hid (∀ wy, Below base w wy → Ar.Is ⟨ta, tn, tc, ba, bn, bc, t, b'⟩ wy) := fun wy hy => hY.below (hb0.trans hy) h0
  have HX := Lib.hid hX
  have HY := Lib.hid hY
  have HPK := Lib.hid PK
  obtain ⟨b, HBB⟩ : ∃ z, Hid (wx.heap.size = z) := ⟨_, rfl⟩
  obtain ⟨W3, HW3⟩ : ∃ z, Hid (wx.alloc (.cells #[.int .i64 kk, .int .i64 op, .int .i64 nn, .slice sa sn sc, .slice aa an ac, .slice ta tn tc, .slice ba bn bc] 40) = z) := ⟨_, rfl⟩
  have hlb : b < W3.heap.size := by rw [← HBB.out, ← HW3.out]; simp
  have SX := H.alloc (t := (7, 0, 0)) (by simp) (cs := #[.int .i64 kk, .int .i64 op, .int .i64 nn, .slice sa sn sc, .slice aa an ac, .slice ta tn tc, .slice ba bn bc]) (E := 40) (sz := 7) (n := 1) rfl (by decide)
  rw [HW3.out, HBB.out] at SX
  obtain ⟨Q3, HQ3⟩ : ∃ z, Hid (updR Q (7, 0, 0) ⟨40, 7, some ⟨b, 0, none⟩, 1, 1, (#[.int .i64 kk, .int .i64 op, .int .i64 nn, .slice sa sn sc, .slice aa an ac, .slice ta tn tc, .slice ba bn bc] : Array Value).toList⟩ = z) := ⟨_, rfl⟩
  rw [HQ3.out] at SX
  have K3 : Hid (Kq Q Q3 ⟨40, 7, some ⟨b, 0, none⟩, 1, 1, (#[.int .i64 kk, .int .i64 op, .int .i64 nn, .slice sa sn sc, .slice aa an ac, .slice ta tn tc, .slice ba bn bc] : Array Value).toList⟩) := by
    rw [← HQ3.out]
    exact ⟨updR_ne (by simp), (updR_ne (by simp)).trans hq.1, (updR_ne (by simp)).trans hq.2, updR_eq⟩
  have PP : Hid (∀ (wy : World) (Qy : Nat × Nat × Nat → Rw) (h1 h2 : Option (Rw × Rw)), St4 base w 32 hb Qy h1 h2 wy → Kq Q Qy ⟨40, 7, some ⟨b, 0, none⟩, 1, 1, (#[.int .i64 kk, .int .i64 op, .int .i64 nn, .slice sa sn sc, .slice aa an ac, .slice ta tn tc, .slice ba bn bc] : Array Value).toList⟩ → wy.cell? ⟨b, 1, none⟩ = some (.int .i64 op) ∧ wy.cell? ⟨b, 2, none⟩ = some (.int .i64 nn) ∧ wy.cell? ⟨b, 3, none⟩ = some (.slice sa sn sc) ∧ wy.cell? ⟨b, 4, none⟩ = some (.slice aa an ac) ∧ wy.cell? ⟨b, 5, none⟩ = some (.slice ta tn tc) ∧ wy.cell? ⟨b, 6, none⟩ = some (.slice ba bn bc)) :=
    fun wy Qy h1 h2 h e => ⟨h.cell (by simp) e.op 1 _ rfl, h.cell (by simp) e.op 2 _ rfl, h.cell (by simp) e.op 3 _ rfl, h.cell (by simp) e.op 4 _ rfl, h.cell (by simp) e.op 5 _ rfl, h.cell (by simp) e.op 6 _ rfl⟩
  have k0 := SX.cell (by simp) K3.out.op 0 _ rfl
  obtain ⟨p1, p2, p3, p4, p5, p6⟩ := PP.out W3 Q3 none none SX K3.out
  have SX := Lib.hid SX
  clear H hX hY h0 hb0 HQ3 hq PK
  subst hk
  have C1 := Lib.hid (fun w1 => HPK.out.chas op nn w1)
  have C2 := Lib.hid (fun w1 => HPK.out.crhas op nn w1)
  obtain ⟨hv, HHV⟩ : ∃ z, Hid (has op nn = z) := ⟨_, rfl⟩
  rw [HHV.out] at C1 C2
  have hbb : (hv == hv) = true := by simp
  have HF : Hid (∀ m, PlQ base w 32 hb Q (.returned (.bool true)) (W3.drewN m)) := fun m => ⟨rfl, Q3, SX.out.via (adrew _ _), K3.out.five, K3.out.n0, K3.out.n1⟩
  go_enter Try.func12, Try.ntmps12
  go_upto_region 1 with fail
  rw [HW3.out, HBB.out]
  go_upto_region 3 with fail
  go_quiet (first | (with_reducible exact Ret.quiet (C1.out _)) | (with_reducible exact Ret.quiet (C2.out _)))
  clear p1 p2 p3 p4 p5 p6 k0
  go_wp2
  go_ret
  exact HF.out _
set_option maxRecDepth 100000 in
set_option maxHeartbeats 6400000 in
theorem plays8_monad (PK : Pkg8 has mon dya) {w0 : World} (H : St4 base w 32 hb Q none none wx) (hq : Q (9, 9, 0) = Rw.nil ∧ Q (9, 9, 1) = Rw.nil) {o : Opv} (hX : o.x.Is w0) (hY : o.y.Is w0) (h0 : w0.heap.size ≤ base) (hb0 : Below base w0 w) (hk : o.k = 2) :
    Calls Try.prog 12 #[.pointer (some ⟨hb, 0, none⟩), .agg o.cells] wx (PlQ base w 32 hb Q) := by
  obtain ⟨kk, op, nn, ⟨sa, sn, sc, aa, an, ac, s, a⟩, ⟨ta, tn, tc, ba, bn, bc, t, b'⟩⟩ := o
  simp only [Opv.cells]
  simp only at hk hX hY
  have XX : Hid (∀ wy, Below base w wy → Ar.Is ⟨sa, sn, sc, aa, an, ac, s, a⟩ wy) := fun wy hy => hX.below (hb0.trans hy) h0
  have YY : Hid (∀ wy, Below base w wy → Ar.Is ⟨ta, tn, tc, ba, bn, bc, t, b'⟩ wy) := fun wy hy => hY.below (hb0.trans hy) h0
  have HX := Lib.hid hX
  have HY := Lib.hid hY
  have HPK := Lib.hid PK
  obtain ⟨b, HBB⟩ : ∃ z, Hid (wx.heap.size = z) := ⟨_, rfl⟩
  obtain ⟨W3, HW3⟩ : ∃ z, Hid (wx.alloc (.cells #[.int .i64 kk, .int .i64 op, .int .i64 nn, .slice sa sn sc, .slice aa an ac, .slice ta tn tc, .slice ba bn bc] 40) = z) := ⟨_, rfl⟩
  have hlb : b < W3.heap.size := by rw [← HBB.out, ← HW3.out]; simp
  have SX := H.alloc (t := (7, 0, 0)) (by simp) (cs := #[.int .i64 kk, .int .i64 op, .int .i64 nn, .slice sa sn sc, .slice aa an ac, .slice ta tn tc, .slice ba bn bc]) (E := 40) (sz := 7) (n := 1) rfl (by decide)
  rw [HW3.out, HBB.out] at SX
  obtain ⟨Q3, HQ3⟩ : ∃ z, Hid (updR Q (7, 0, 0) ⟨40, 7, some ⟨b, 0, none⟩, 1, 1, (#[.int .i64 kk, .int .i64 op, .int .i64 nn, .slice sa sn sc, .slice aa an ac, .slice ta tn tc, .slice ba bn bc] : Array Value).toList⟩ = z) := ⟨_, rfl⟩
  rw [HQ3.out] at SX
  have K3 : Hid (Kq Q Q3 ⟨40, 7, some ⟨b, 0, none⟩, 1, 1, (#[.int .i64 kk, .int .i64 op, .int .i64 nn, .slice sa sn sc, .slice aa an ac, .slice ta tn tc, .slice ba bn bc] : Array Value).toList⟩) := by
    rw [← HQ3.out]
    exact ⟨updR_ne (by simp), (updR_ne (by simp)).trans hq.1, (updR_ne (by simp)).trans hq.2, updR_eq⟩
  have PP : Hid (∀ (wy : World) (Qy : Nat × Nat × Nat → Rw) (h1 h2 : Option (Rw × Rw)), St4 base w 32 hb Qy h1 h2 wy → Kq Q Qy ⟨40, 7, some ⟨b, 0, none⟩, 1, 1, (#[.int .i64 kk, .int .i64 op, .int .i64 nn, .slice sa sn sc, .slice aa an ac, .slice ta tn tc, .slice ba bn bc] : Array Value).toList⟩ → wy.cell? ⟨b, 1, none⟩ = some (.int .i64 op) ∧ wy.cell? ⟨b, 2, none⟩ = some (.int .i64 nn) ∧ wy.cell? ⟨b, 3, none⟩ = some (.slice sa sn sc) ∧ wy.cell? ⟨b, 4, none⟩ = some (.slice aa an ac) ∧ wy.cell? ⟨b, 5, none⟩ = some (.slice ta tn tc) ∧ wy.cell? ⟨b, 6, none⟩ = some (.slice ba bn bc)) :=
    fun wy Qy h1 h2 h e => ⟨h.cell (by simp) e.op 1 _ rfl, h.cell (by simp) e.op 2 _ rfl, h.cell (by simp) e.op 3 _ rfl, h.cell (by simp) e.op 4 _ rfl, h.cell (by simp) e.op 5 _ rfl, h.cell (by simp) e.op 6 _ rfl⟩
  have k0 := SX.cell (by simp) K3.out.op 0 _ rfl
  obtain ⟨p1, p2, p3, p4, p5, p6⟩ := PP.out W3 Q3 none none SX K3.out
  have SX := Lib.hid SX
  clear H hX hY h0 hb0 HQ3 hq PK
  subst hk
  obtain ⟨S, HSS⟩ : ∃ z, Hid ((mon op t b').1 = z) := ⟨_, rfl⟩
  obtain ⟨A, HAA⟩ : ∃ z, Hid ((mon op t b').2.1 = z) := ⟨_, rfl⟩
  obtain ⟨E, HEE⟩ : ∃ z, Hid ((mon op t b').2.2 = z) := ⟨_, rfl⟩
  have CMQ : Hid (∀ (w1 : World) (ta tn tc ba bn bc), Ar.Is ⟨ta, tn, tc, ba, bn, bc, t, b'⟩ w1 → Calls Try.prog 20 #[.int .i64 op, .agg #[.slice ta tn tc, .slice ba bn bc]] w1 (MadeE w1 S A E)) := fun w1 _ _ _ _ _ _ h => by
    have q := HPK.out.cmon h op
    simp only [HSS.out, HAA.out, HEE.out, Ar.v] at q
    exact q
  have CRQ : Hid (∀ (w1 : World), Ar.Is ⟨ta, tn, tc, ba, bn, bc, t, b'⟩ w1 → Calls Try.prog 32 #[.int .i64 op, .agg #[.slice ta tn tc, .slice ba bn bc]] w1 (MadeE w1 S A E)) := fun w1 h => by
    have q := HPK.out.crmon h op
    simp only [HSS.out, HAA.out, HEE.out, Ar.v] at q
    exact q
  have hee : (E == E) = true := by simp
  have ne1 : ¬ b = W3.heap.size := by omega
  have ne2 : ¬ W3.heap.size = b := by omega
  have SXD := Lib.hid SX.out.drew
  have SXA := SX.out.alloc (t := (7, 1, 0)) (by simp) (cs := #[.slice none 0 0, .slice none 0 0]) (E := 38) (sz := 2) (n := 1) rfl (by decide)
  have SXE := Lib.hid SXA.drew
  have K3A := Lib.hid (K3.out.upd (t := (7, 1, 0)) (r := ⟨38, 2, some ⟨W3.heap.size, 0, none⟩, 1, 1, (#[.slice none 0 0, .slice none 0 0] : Array Value).toList⟩) (.inr ⟨rfl, by simp⟩))
  clear SXA
  have CI := Lib.hid (fun (wy : World) (Qy : Nat × Nat × Nat → Rw) (h1 h2 : Option (Rw × Rw)) (h : St4 base w 32 hb Qy h1 h2 wy) (k : Kq Q Qy ⟨40, 7, some ⟨b, 0, none⟩, 1, 1, (#[.int .i64 2, .int .i64 op, .int .i64 nn, .slice sa sn sc, .slice aa an ac, .slice ta tn tc, .slice ba bn bc] : Array Value).toList⟩) => h.array2 ⟨k.n0, k.n1⟩ YY.out)
  simp only [Ar.v] at CI
  go_enter Try.func12, Try.ntmps12
  go_upto_region 1 with fail
  rw [HW3.out, HBB.out]
  go_upto_region 5 with fail
  clear k0
  go_upto_region 5 with fail
  go_cut [5, 6] from 34 to 44 (fun v5 v6 wx => ∃ (g8 : Nat) (R : Ar) (Qy : Nat × Nat × Nat → Rw) (g d g2 d2 : Nat), v5 = .pointer (some ⟨g8, 0, none⟩) ∧ v6 = .int .i64 E ∧ Hid (St4 base w 32 hb Qy none (some (laid4 t b' g d g2 d2)) wx) ∧ Hid (Kq Q Qy ⟨40, 7, some ⟨b, 0, none⟩, 1, 1, (#[.int .i64 2, .int .i64 op, .int .i64 nn, .slice sa sn sc, .slice aa an ac, .slice ta tn tc, .slice ba bn bc] : Array Value).toList⟩) ∧ Hid (Ans Qy 1 g8 R) ∧ Hid (R.s = S ∧ R.a = A ∧ ∃ w9, R.Is w9))
  case first =>
    go_region_held3 (fun v => v.cell? ⟨b, 1, none⟩ = some (.int .i64 op) ∧ v.cell? ⟨b, 5, none⟩ = some (.slice ta tn tc) ∧ v.cell? ⟨b, 6, none⟩ = some (.slice ba bn bc)) (go_keep)
      (first
      | (go_at_call 30; (with_reducible refine Calls.mono (CI.out _ _ _ _ SXD.out K3.out) ?_); rintro e w5 ⟨g, d, g2, d2, rfl, hd, hd2, hS5⟩; have H5 := Lib.hid hS5; have C2 := Lib.hid (CMQ.out w5 _ _ _ _ _ _ (hS5.is2 HY.out hd hd2)); have C3 := Lib.hid (CMQ.out (w5.alloc (.cells #[.slice none 0 0, .slice none 0 0] 38)) _ _ _ _ _ _ ((hS5.is2 HY.out hd hd2).via (abal _ _))); clear p1 p2 p3 p4 p5 p6; obtain ⟨p1, p2, p3, p4, p5, p6⟩ := PP.out _ _ _ _ hS5 K3.out; have hlt5 : b < w5.heap.size := World.block_lt_of_cell? _ _ p1; have ne3 : ¬ b = w5.heap.size := (by omega); have ne4 : ¬ w5.heap.size = b := (by omega); clear CI hS5 hlt5)
      | (go_at_call 30; (with_reducible refine Calls.mono (CI.out _ _ _ _ SXE.out K3A.out) ?_); rintro e w5 ⟨g, d, g2, d2, rfl, hd, hd2, hS5⟩; have H5 := Lib.hid hS5; have C4 := Lib.hid (CMQ.out w5 _ _ _ _ _ _ (hS5.is2 HY.out hd hd2)); clear p1 p2 p3 p4 p5 p6; obtain ⟨p1, p2, p3, p4, p5, p6⟩ := PP.out _ _ _ _ hS5 K3A.out; have x0 := hS5.cell (t := (7, 1, 0)) (by simp) updR_eq 0 _ rfl; have x1 := hS5.cell (t := (7, 1, 0)) (by simp) updR_eq 1 _ rfl; have x2 := hS5.frozen (t := (7, 1, 0)) (by simp) updR_eq 0; have x3 := hS5.frozen (t := (7, 1, 0)) (by simp) updR_eq 1; clear CI hS5)
      | (have hreq := C2; go_at_call 20; (with_reducible refine Calls.mono C2.out ?_); rintro e w6 ⟨⟨sa6, sn6, sc6, aa6, an6, ac6, s6, a6⟩, rfl, hI, hs, ha, hO, hq6⟩; have H6 := Lib.hid (H5.out.made (t1 := (6, 1, 0)) (t2 := (6, 1, 1)) (by simp) (by simp) (by simp) hO hq6); have K6 := Lib.hid ((K3.out.upd (t := (6, 1, 0)) (r := rowS ⟨sa6, sn6, sc6, aa6, an6, ac6, s6, a6⟩) (.inl rfl)).upd (t := (6, 1, 1)) (r := rowA ⟨sa6, sn6, sc6, aa6, an6, ac6, s6, a6⟩) (.inl rfl)); have V6 := Lib.hid (And.intro hs (And.intro ha (Exists.intro _ hI))); simp only [Ar.v]; clear p1 p2 p3 p4 p5 p6; obtain ⟨p1, p2, p3, p4, p5, p6⟩ := PP.out _ _ _ _ H6.out K6.out; have hlt6 : b < w6.heap.size := World.block_lt_of_cell? _ _ p1; have ne5 : ¬ b = w6.heap.size := (by omega); have ne6 : ¬ w6.heap.size = b := (by omega); clear hI hs ha hO hq6 hreq C2 C3 hlt6)
      | (have hreq := C3; go_at_call 20; (with_reducible refine Calls.mono C3.out ?_); rintro e w6 ⟨⟨sa6, sn6, sc6, aa6, an6, ac6, s6, a6⟩, rfl, hI, hs, ha, hO, hq6⟩; have H6 := Lib.hid ((H5.out.alloc (t := (7, 1, 0)) (by simp) (cs := #[.slice none 0 0, .slice none 0 0]) (E := 38) (sz := 2) (n := 1) rfl (by decide)).made (t1 := (6, 1, 0)) (t2 := (6, 1, 1)) (by simp) (by simp) (by simp) hO hq6); have K6 := Lib.hid (((K3.out.upd (t := (7, 1, 0)) (r := ⟨38, 2, some ⟨w5.heap.size, 0, none⟩, 1, 1, (#[.slice none 0 0, .slice none 0 0] : Array Value).toList⟩) (.inr ⟨rfl, by simp⟩)).upd (t := (6, 1, 0)) (r := rowS ⟨sa6, sn6, sc6, aa6, an6, ac6, s6, a6⟩) (.inl rfl)).upd (t := (6, 1, 1)) (r := rowA ⟨sa6, sn6, sc6, aa6, an6, ac6, s6, a6⟩) (.inl rfl)); have V6 := Lib.hid (And.intro hs (And.intro ha (Exists.intro _ hI))); simp only [Ar.v]; clear p1 p2 p3 p4 p5 p6; obtain ⟨p1, p2, p3, p4, p5, p6⟩ := PP.out _ _ _ _ H6.out K6.out; have x0 := H6.out.cell (t := (7, 1, 0)) (by simp) ((updR_ne (by simp)).trans ((updR_ne (by simp)).trans updR_eq)) 0 _ rfl; have x1 := H6.out.cell (t := (7, 1, 0)) (by simp) ((updR_ne (by simp)).trans ((updR_ne (by simp)).trans updR_eq)) 1 _ rfl; have x2 := H6.out.frozen (t := (7, 1, 0)) (by simp) ((updR_ne (by simp)).trans ((updR_ne (by simp)).trans updR_eq)) 0; have x3 := H6.out.frozen (t := (7, 1, 0)) (by simp) ((updR_ne (by simp)).trans ((updR_ne (by simp)).trans updR_eq)) 1; clear hI hs ha hO hq6 hreq C2 C3)
      | (have hreq := C4; go_at_call 20; (with_reducible refine Calls.mono C4.out ?_); rintro e w6 ⟨⟨sa6, sn6, sc6, aa6, an6, ac6, s6, a6⟩, rfl, hI, hs, ha, hO, hq6⟩; have H6 := Lib.hid (H5.out.made (t1 := (6, 1, 0)) (t2 := (6, 1, 1)) (by simp) (by simp) (by simp) hO hq6); have K6 := Lib.hid ((K3A.out.upd (t := (6, 1, 0)) (r := rowS ⟨sa6, sn6, sc6, aa6, an6, ac6, s6, a6⟩) (.inl rfl)).upd (t := (6, 1, 1)) (r := rowA ⟨sa6, sn6, sc6, aa6, an6, ac6, s6, a6⟩) (.inl rfl)); have V6 := Lib.hid (And.intro hs (And.intro ha (Exists.intro _ hI))); simp only [Ar.v]; clear p1 p2 p3 p4 p5 p6; obtain ⟨p1, p2, p3, p4, p5, p6⟩ := PP.out _ _ _ _ H6.out K6.out; clear x0 x1 x2 x3; have x0 := H6.out.cell (t := (7, 1, 0)) (by simp) ((updR_ne (by simp)).trans ((updR_ne (by simp)).trans updR_eq)) 0 _ rfl; have x1 := H6.out.cell (t := (7, 1, 0)) (by simp) ((updR_ne (by simp)).trans ((updR_ne (by simp)).trans updR_eq)) 1 _ rfl; have x2 := H6.out.frozen (t := (7, 1, 0)) (by simp) ((updR_ne (by simp)).trans ((updR_ne (by simp)).trans updR_eq)) 0; have x3 := H6.out.frozen (t := (7, 1, 0)) (by simp) ((updR_ne (by simp)).trans ((updR_ne (by simp)).trans updR_eq)) 1; clear hI hs ha hO hq6 hreq C4)
      )
    all_goals
      go_wp2_with fail
      go_meet
      first
      | exact ⟨w6.heap.size, ⟨sa6, sn6, sc6, aa6, an6, ac6, s6, a6⟩, _, g, d, g2, d2, rfl, rfl, H6.out.alloc (t := (7, 1, 0)) (by simp) (cs := #[.slice sa6 sn6 sc6, .slice aa6 an6 ac6]) (E := 38) (sz := 2) (n := 1) rfl (by decide), K6.out.upd (.inr ⟨rfl, by simp⟩), ⟨updR_eq, (updR_ne (by simp)).trans ((updR_ne (by simp)).trans updR_eq), (updR_ne (by simp)).trans updR_eq⟩, V6.out⟩
      | exact ⟨_, ⟨sa6, sn6, sc6, aa6, an6, ac6, s6, a6⟩, _, g, d, g2, d2, rfl, rfl, ((H6.out.put (t := (7, 1, 0)) (by simp) ((updR_ne (by simp)).trans ((updR_ne (by simp)).trans updR_eq)) 0 (.slice sa6 sn6 sc6)).put (t := (7, 1, 0)) (by simp) updR_eq 1 (.slice aa6 an6 ac6)), (K6.out.upd (.inr ⟨rfl, by simp⟩)).upd (.inr ⟨rfl, by simp⟩), ⟨updR_eq, (updR_ne (by simp)).trans ((updR_ne (by simp)).trans ((updR_ne (by simp)).trans updR_eq)), (updR_ne (by simp)).trans ((updR_ne (by simp)).trans updR_eq)⟩, V6.out⟩
  case rest =>
    obtain ⟨g8, ⟨sa8, sn8, sc8, aa8, an8, ac8, s8, a8⟩, Qy, g, d, g2, d2, rfl, rfl, H8, K8, A8, V8⟩ := hcut
    obtain ⟨U8, hU⟩ : ∃ z : World, z = wc := ⟨_, rfl⟩
    subst hU
    clear p1 p2 p3 p4 p5 p6 ne1 ne2 CI SX SXD SXE
    obtain ⟨p1, p2, p3, p4, p5, p6⟩ := PP.out _ _ _ _ H8.out K8.out
    have CK := Lib.hid (H8.out.drew.kept2 (A := ⟨ta, tn, tc, ba, bn, bc, t, b'⟩) ⟨K8.out.n0, K8.out.n1⟩ YY.out)
    simp only [Ar.v] at CK
    go_upto_region 6 with fail
    go_region_held3 (fun v => v.cell? ⟨b, 5, none⟩ = some (.slice ta tn tc) ∧ v.cell? ⟨b, 6, none⟩ = some (.slice ba bn bc)) (go_keep)
      (first
      | (go_at_call 31; (with_reducible refine Calls.mono CK.out ?_); rintro e w9 ⟨rfl, hS9⟩; have H9 := Lib.hid hS9; clear p1 p2 p3 p4 p5 p6; obtain ⟨p1, p2, p3, p4, p5, p6⟩ := PP.out _ _ _ _ hS9 K8.out; clear hS9))
    have C5 := Lib.hid (CRQ.out _ (YY.out _ H9.out.below))
    clear CK
    go_wp2_with fail
    refine C5.out.mono ?_; rintro e w10 ⟨⟨sa10, sn10, sc10, aa10, an10, ac10, s10, a10⟩, rfl, hI, hs, ha, hO, hq10⟩
    simp only at hs ha
    have H10 := Lib.hid ((H9.out.made (t1 := (6, 2, 0)) (t2 := (6, 2, 1)) (by simp) (by simp) (by simp) hO hq10).alloc (t := (7, 2, 0)) (by simp) (cs := #[.slice sa10 sn10 sc10, .slice aa10 an10 ac10]) (E := 38) (sz := 2) (n := 1) rfl (by decide))
    have hx0 := H10.out.cell (t := (7, 1, 0)) (by simp) ((updR_ne (by simp)).trans ((updR_ne (by simp)).trans ((updR_ne (by simp)).trans A8.out.box))) 0 _ rfl
    have hx1 := H10.out.cell (t := (7, 1, 0)) (by simp) ((updR_ne (by simp)).trans ((updR_ne (by simp)).trans ((updR_ne (by simp)).trans A8.out.box))) 1 _ rfl
    have hy0 := H10.out.cell (t := (7, 2, 0)) (by simp) updR_eq 0 _ rfl
    have hy1 := H10.out.cell (t := (7, 2, 0)) (by simp) updR_eq 1 _ rfl
    obtain ⟨e1, e2, w11, hI8⟩ := V8.out
    have CE := Lib.hid (eq4_any (H10.out.isA (t1 := (6, 1, 0)) (t2 := (6, 1, 1)) (B := ⟨sa8, sn8, sc8, aa8, an8, ac8, s8, a8⟩) (by simp) (by simp) hI8 ((updR_ne (by simp)).trans ((updR_ne (by simp)).trans ((updR_ne (by simp)).trans A8.out.s))) ((updR_ne (by simp)).trans ((updR_ne (by simp)).trans ((updR_ne (by simp)).trans A8.out.a)))) (H10.out.isA (t1 := (6, 2, 0)) (t2 := (6, 2, 1)) (B := ⟨sa10, sn10, sc10, aa10, an10, ac10, s10, a10⟩) (by simp) (by simp) hI ((updR_ne (by simp)).trans ((updR_ne (by simp)).trans updR_eq)) ((updR_ne (by simp)).trans updR_eq)))
    simp only [Ar.v] at CE ⊢
    try simp only at e1 e2
    rw [decide_eq_true ⟨e1.trans hs.symm, e2.trans ha.symm⟩] at CE
    have KF := Lib.hid (((K8.out.upd (t := (6, 2, 0)) (r := rowS ⟨sa10, sn10, sc10, aa10, an10, ac10, s10, a10⟩) (.inl rfl)).upd (t := (6, 2, 1)) (r := rowA ⟨sa10, sn10, sc10, aa10, an10, ac10, s10, a10⟩) (.inl rfl)).upd (t := (7, 2, 0)) (r := ⟨38, 2, some ⟨w10.heap.size, 0, none⟩, 1, 1, (#[.slice sa10 sn10 sc10, .slice aa10 an10 ac10] : Array Value).toList⟩) (.inr ⟨rfl, by simp⟩))
    clear hI hs ha hO hq10 C5 e1 e2 hI8 p1 p2 p3 p4 p5 p6
    go_wp2_with fail
    refine CE.out.mono ?_; rintro e w12 ⟨rfl, hb12⟩
    have HF : Hid (PlQ base w 32 hb Q (.returned (.bool true)) w12) := ⟨rfl, _, H10.out.via hb12, KF.out.five, KF.out.n0, KF.out.n1⟩
    clear hb12 hx0 hx1 hy0 hy1
    go_wp2
    go_ret
    exact HF.out
set_option maxRecDepth 100000 in
set_option maxHeartbeats 6400000 in
theorem plays8_dyad (PK : Pkg8 has mon dya) {w0 : World} (H : St4 base w 32 hb Q none none wx) (hq : Q (9, 9, 0) = Rw.nil ∧ Q (9, 9, 1) = Rw.nil) {o : Opv} (hX : o.x.Is w0) (hY : o.y.Is w0) (h0 : w0.heap.size ≤ base) (hb0 : Below base w0 w) (hk : o.k = 3) :
    Calls Try.prog 12 #[.pointer (some ⟨hb, 0, none⟩), .agg o.cells] wx (PlQ base w 32 hb Q) := by
  obtain ⟨kk, op, nn, ⟨sa, sn, sc, aa, an, ac, s, a⟩, ⟨ta, tn, tc, ba, bn, bc, t, b'⟩⟩ := o
  simp only [Opv.cells]
  simp only at hk hX hY
  have XX : Hid (∀ wy, Below base w wy → Ar.Is ⟨sa, sn, sc, aa, an, ac, s, a⟩ wy) := fun wy hy => hX.below (hb0.trans hy) h0
  have YY : Hid (∀ wy, Below base w wy → Ar.Is ⟨ta, tn, tc, ba, bn, bc, t, b'⟩ wy) := fun wy hy => hY.below (hb0.trans hy) h0
  have HX := Lib.hid hX
  have HY := Lib.hid hY
  have HPK := Lib.hid PK
  obtain ⟨b, HBB⟩ : ∃ z, Hid (wx.heap.size = z) := ⟨_, rfl⟩
  obtain ⟨W3, HW3⟩ : ∃ z, Hid (wx.alloc (.cells #[.int .i64 kk, .int .i64 op, .int .i64 nn, .slice sa sn sc, .slice aa an ac, .slice ta tn tc, .slice ba bn bc] 40) = z) := ⟨_, rfl⟩
  have hlb : b < W3.heap.size := by rw [← HBB.out, ← HW3.out]; simp
  have SX := H.alloc (t := (7, 0, 0)) (by simp) (cs := #[.int .i64 kk, .int .i64 op, .int .i64 nn, .slice sa sn sc, .slice aa an ac, .slice ta tn tc, .slice ba bn bc]) (E := 40) (sz := 7) (n := 1) rfl (by decide)
  rw [HW3.out, HBB.out] at SX
  obtain ⟨Q3, HQ3⟩ : ∃ z, Hid (updR Q (7, 0, 0) ⟨40, 7, some ⟨b, 0, none⟩, 1, 1, (#[.int .i64 kk, .int .i64 op, .int .i64 nn, .slice sa sn sc, .slice aa an ac, .slice ta tn tc, .slice ba bn bc] : Array Value).toList⟩ = z) := ⟨_, rfl⟩
  rw [HQ3.out] at SX
  have K3 : Hid (Kq Q Q3 ⟨40, 7, some ⟨b, 0, none⟩, 1, 1, (#[.int .i64 kk, .int .i64 op, .int .i64 nn, .slice sa sn sc, .slice aa an ac, .slice ta tn tc, .slice ba bn bc] : Array Value).toList⟩) := by
    rw [← HQ3.out]
    exact ⟨updR_ne (by simp), (updR_ne (by simp)).trans hq.1, (updR_ne (by simp)).trans hq.2, updR_eq⟩
  have PP : Hid (∀ (wy : World) (Qy : Nat × Nat × Nat → Rw) (h1 h2 : Option (Rw × Rw)), St4 base w 32 hb Qy h1 h2 wy → Kq Q Qy ⟨40, 7, some ⟨b, 0, none⟩, 1, 1, (#[.int .i64 kk, .int .i64 op, .int .i64 nn, .slice sa sn sc, .slice aa an ac, .slice ta tn tc, .slice ba bn bc] : Array Value).toList⟩ → wy.cell? ⟨b, 1, none⟩ = some (.int .i64 op) ∧ wy.cell? ⟨b, 2, none⟩ = some (.int .i64 nn) ∧ wy.cell? ⟨b, 3, none⟩ = some (.slice sa sn sc) ∧ wy.cell? ⟨b, 4, none⟩ = some (.slice aa an ac) ∧ wy.cell? ⟨b, 5, none⟩ = some (.slice ta tn tc) ∧ wy.cell? ⟨b, 6, none⟩ = some (.slice ba bn bc)) :=
    fun wy Qy h1 h2 h e => ⟨h.cell (by simp) e.op 1 _ rfl, h.cell (by simp) e.op 2 _ rfl, h.cell (by simp) e.op 3 _ rfl, h.cell (by simp) e.op 4 _ rfl, h.cell (by simp) e.op 5 _ rfl, h.cell (by simp) e.op 6 _ rfl⟩
  have k0 := SX.cell (by simp) K3.out.op 0 _ rfl
  obtain ⟨p1, p2, p3, p4, p5, p6⟩ := PP.out W3 Q3 none none SX K3.out
  have SX := Lib.hid SX
  clear H hX hY h0 hb0 HQ3 hq PK
  subst hk
  obtain ⟨S, HSS⟩ : ∃ z, Hid ((dya op s a t b').1 = z) := ⟨_, rfl⟩
  obtain ⟨A, HAA⟩ : ∃ z, Hid ((dya op s a t b').2.1 = z) := ⟨_, rfl⟩
  obtain ⟨E, HEE⟩ : ∃ z, Hid ((dya op s a t b').2.2 = z) := ⟨_, rfl⟩
  have CMQ : Hid (∀ (w1 : World) (sa sn sc aa an ac ta tn tc ba bn bc), Ar.Is ⟨sa, sn, sc, aa, an, ac, s, a⟩ w1 → Ar.Is ⟨ta, tn, tc, ba, bn, bc, t, b'⟩ w1 → Calls Try.prog 24 #[.int .i64 op, .agg #[.slice sa sn sc, .slice aa an ac], .agg #[.slice ta tn tc, .slice ba bn bc]] w1 (MadeE w1 S A E)) := fun w1 _ _ _ _ _ _ _ _ _ _ _ _ h1 h => by
    have q := HPK.out.cdya h1 h op
    simp only [HSS.out, HAA.out, HEE.out, Ar.v] at q
    exact q
  have CRQ : Hid (∀ (w1 : World), Ar.Is ⟨sa, sn, sc, aa, an, ac, s, a⟩ w1 → Ar.Is ⟨ta, tn, tc, ba, bn, bc, t, b'⟩ w1 → Calls Try.prog 33 #[.int .i64 op, .agg #[.slice sa sn sc, .slice aa an ac], .agg #[.slice ta tn tc, .slice ba bn bc]] w1 (MadeE w1 S A E)) := fun w1 h1 h => by
    have q := HPK.out.crdya h1 h op
    simp only [HSS.out, HAA.out, HEE.out, Ar.v] at q
    exact q
  have hee : (E == E) = true := by simp
  have ne1 : ¬ b = W3.heap.size := by omega
  have ne2 : ¬ W3.heap.size = b := by omega
  have SXD := Lib.hid SX.out.drew
  have SXA := SX.out.alloc (t := (7, 1, 0)) (by simp) (cs := #[.slice none 0 0, .slice none 0 0]) (E := 38) (sz := 2) (n := 1) rfl (by decide)
  have SXE := Lib.hid SXA.drew
  have K3A := Lib.hid (K3.out.upd (t := (7, 1, 0)) (r := ⟨38, 2, some ⟨W3.heap.size, 0, none⟩, 1, 1, (#[.slice none 0 0, .slice none 0 0] : Array Value).toList⟩) (.inr ⟨rfl, by simp⟩))
  clear SXA
  have CI := Lib.hid (fun (wy : World) (Qy : Nat × Nat × Nat → Rw) (h1 h2 : Option (Rw × Rw)) (h : St4 base w 32 hb Qy h1 h2 wy) (k : Kq Q Qy ⟨40, 7, some ⟨b, 0, none⟩, 1, 1, (#[.int .i64 3, .int .i64 op, .int .i64 nn, .slice sa sn sc, .slice aa an ac, .slice ta tn tc, .slice ba bn bc] : Array Value).toList⟩) => h.array1 ⟨k.n0, k.n1⟩ XX.out)
  have CJ := Lib.hid (fun (wy : World) (Qy : Nat × Nat × Nat → Rw) (h1 h2 : Option (Rw × Rw)) (h : St4 base w 32 hb Qy h1 h2 wy) (k : Kq Q Qy ⟨40, 7, some ⟨b, 0, none⟩, 1, 1, (#[.int .i64 3, .int .i64 op, .int .i64 nn, .slice sa sn sc, .slice aa an ac, .slice ta tn tc, .slice ba bn bc] : Array Value).toList⟩) => h.array2 ⟨k.n0, k.n1⟩ YY.out)
  simp only [Ar.v] at CI CJ
  go_enter Try.func12, Try.ntmps12
  go_upto_region 1 with fail
  rw [HW3.out, HBB.out]
  go_upto_region 10 with fail
  clear k0
  go_upto_region 10 with fail
  go_cut [10, 11] from 73 to 89 (fun v10 v11 wx => ∃ (g8 : Nat) (R : Ar) (Qy : Nat × Nat × Nat → Rw) (g d g2 d2 i d3 i2 d4 : Nat), v10 = .pointer (some ⟨g8, 0, none⟩) ∧ v11 = .int .i64 E ∧ Hid (St4 base w 32 hb Qy (some (laid4 s a g d g2 d2)) (some (laid4 t b' i d3 i2 d4)) wx) ∧ Hid (Kq Q Qy ⟨40, 7, some ⟨b, 0, none⟩, 1, 1, (#[.int .i64 3, .int .i64 op, .int .i64 nn, .slice sa sn sc, .slice aa an ac, .slice ta tn tc, .slice ba bn bc] : Array Value).toList⟩) ∧ Hid (Ans Qy 1 g8 R) ∧ Hid (R.s = S ∧ R.a = A ∧ ∃ w9, R.Is w9))
  case first =>
    go_region_held3 (fun v => v.cell? ⟨b, 1, none⟩ = some (.int .i64 op) ∧ v.cell? ⟨b, 3, none⟩ = some (.slice sa sn sc) ∧ v.cell? ⟨b, 4, none⟩ = some (.slice aa an ac) ∧ v.cell? ⟨b, 5, none⟩ = some (.slice ta tn tc) ∧ v.cell? ⟨b, 6, none⟩ = some (.slice ba bn bc)) (go_keep)
      (first
      | (go_at_call 30; (with_reducible refine Calls.mono (CI.out _ _ _ _ SXD.out K3.out) ?_); rintro e w5 ⟨g, d, g2, d2, rfl, hd, hd2, hS5⟩; have H5 := Lib.hid hS5; have HD5 := Lib.hid (And.intro hd hd2); clear p1 p2 p3 p4 p5 p6; obtain ⟨p1, p2, p3, p4, p5, p6⟩ := PP.out _ _ _ _ hS5 K3.out; have hlt5 : b < w5.heap.size := World.block_lt_of_cell? _ _ p1; have ne3 : ¬ b = w5.heap.size := (by omega); have ne4 : ¬ w5.heap.size = b := (by omega); have H5a := Lib.hid (hS5.alloc (t := (7, 1, 0)) (by simp) (cs := #[.slice none 0 0, .slice none 0 0]) (E := 38) (sz := 2) (n := 1) rfl (by decide)); have K5a := Lib.hid (K3.out.upd (t := (7, 1, 0)) (r := ⟨38, 2, some ⟨w5.heap.size, 0, none⟩, 1, 1, (#[.slice none 0 0, .slice none 0 0] : Array Value).toList⟩) (.inr ⟨rfl, by simp⟩)); clear CI hS5 hlt5 hd hd2)
      | (go_at_call 30; (with_reducible refine Calls.mono (CI.out _ _ _ _ SXE.out K3A.out) ?_); rintro e w5 ⟨g, d, g2, d2, rfl, hd, hd2, hS5⟩; have H5e := Lib.hid hS5; have HD5 := Lib.hid (And.intro hd hd2); clear p1 p2 p3 p4 p5 p6; obtain ⟨p1, p2, p3, p4, p5, p6⟩ := PP.out _ _ _ _ hS5 K3A.out; have x0 := hS5.cell (t := (7, 1, 0)) (by simp) updR_eq 0 _ rfl; have x1 := hS5.cell (t := (7, 1, 0)) (by simp) updR_eq 1 _ rfl; have x2 := hS5.frozen (t := (7, 1, 0)) (by simp) updR_eq 0; have x3 := hS5.frozen (t := (7, 1, 0)) (by simp) updR_eq 1; clear CI hS5 hd hd2)
      | (go_at_call 30; (with_reducible refine Calls.mono (CJ.out _ _ _ _ H5.out K3.out) ?_); rintro e w6 ⟨i, d3, i2, d4, rfl, hd, hd2, hS5⟩; have H5b := Lib.hid hS5; have C2 := Lib.hid (CMQ.out w6 _ _ _ _ _ _ _ _ _ _ _ _ (hS5.is1 HX.out HD5.out.1 HD5.out.2) (hS5.is2 HY.out hd hd2)); have C3 := Lib.hid (CMQ.out (w6.alloc (.cells #[.slice none 0 0, .slice none 0 0] 38)) _ _ _ _ _ _ _ _ _ _ _ _ ((hS5.is1 HX.out HD5.out.1 HD5.out.2).via (abal _ _)) ((hS5.is2 HY.out hd hd2).via (abal _ _))); clear p1 p2 p3 p4 p5 p6; obtain ⟨p1, p2, p3, p4, p5, p6⟩ := PP.out _ _ _ _ hS5 K3.out; have hlt5 : b < w6.heap.size := World.block_lt_of_cell? _ _ p1; have ne5 : ¬ b = w6.heap.size := (by omega); have ne6 : ¬ w6.heap.size = b := (by omega); clear CJ hS5 hlt5 H5 H5a hd hd2)
      | (go_at_call 30; (with_reducible refine Calls.mono (CJ.out _ _ _ _ H5a.out K5a.out) ?_); rintro e w6 ⟨i, d3, i2, d4, rfl, hd, hd2, hS5⟩; obtain ⟨Qf, H5f, K5f, F5⟩ : ∃ (Qf : Nat × Nat × Nat → Rw), Hid (St4 base w 32 hb Qf (some (laid4 s a g d g2 d2)) (some (laid4 t b' i d3 i2 d4)) w6) ∧ Hid (Kq Q Qf ⟨40, 7, some ⟨b, 0, none⟩, 1, 1, (#[.int .i64 3, .int .i64 op, .int .i64 nn, .slice sa sn sc, .slice aa an ac, .slice ta tn tc, .slice ba bn bc] : Array Value).toList⟩) ∧ Hid (Qf (7, 1, 0) = ⟨38, 2, some ⟨w5.heap.size, 0, none⟩, 1, 1, [.slice none 0 0, .slice none 0 0]⟩) := ⟨_, hS5, K5a, updR_eq⟩; have C4 := Lib.hid (CMQ.out w6 _ _ _ _ _ _ _ _ _ _ _ _ (hS5.is1 HX.out HD5.out.1 HD5.out.2) (hS5.is2 HY.out hd hd2)); clear p1 p2 p3 p4 p5 p6; obtain ⟨p1, p2, p3, p4, p5, p6⟩ := PP.out _ _ _ _ hS5 K5a.out; have x0 := hS5.cell (t := (7, 1, 0)) (by simp) updR_eq 0 _ rfl; have x1 := hS5.cell (t := (7, 1, 0)) (by simp) updR_eq 1 _ rfl; have x2 := hS5.frozen (t := (7, 1, 0)) (by simp) updR_eq 0; have x3 := hS5.frozen (t := (7, 1, 0)) (by simp) updR_eq 1; clear CJ hS5 H5 H5a hd hd2)
      | (go_at_call 30; (with_reducible refine Calls.mono (CJ.out _ _ _ _ H5e.out K3A.out) ?_); rintro e w6 ⟨i, d3, i2, d4, rfl, hd, hd2, hS5⟩; obtain ⟨Qf, H5f, K5f, F5⟩ : ∃ (Qf : Nat × Nat × Nat → Rw), Hid (St4 base w 32 hb Qf (some (laid4 s a g d g2 d2)) (some (laid4 t b' i d3 i2 d4)) w6) ∧ Hid (Kq Q Qf ⟨40, 7, some ⟨b, 0, none⟩, 1, 1, (#[.int .i64 3, .int .i64 op, .int .i64 nn, .slice sa sn sc, .slice aa an ac, .slice ta tn tc, .slice ba bn bc] : Array Value).toList⟩) ∧ Hid (Qf (7, 1, 0) = ⟨38, 2, some ⟨W3.heap.size, 0, none⟩, 1, 1, [.slice none 0 0, .slice none 0 0]⟩) := ⟨_, hS5, K3A, updR_eq⟩; have C4 := Lib.hid (CMQ.out w6 _ _ _ _ _ _ _ _ _ _ _ _ (hS5.is1 HX.out HD5.out.1 HD5.out.2) (hS5.is2 HY.out hd hd2)); clear p1 p2 p3 p4 p5 p6; obtain ⟨p1, p2, p3, p4, p5, p6⟩ := PP.out _ _ _ _ hS5 K3A.out; clear x0 x1 x2 x3; have x0 := hS5.cell (t := (7, 1, 0)) (by simp) updR_eq 0 _ rfl; have x1 := hS5.cell (t := (7, 1, 0)) (by simp) updR_eq 1 _ rfl; have x2 := hS5.frozen (t := (7, 1, 0)) (by simp) updR_eq 0; have x3 := hS5.frozen (t := (7, 1, 0)) (by simp) updR_eq 1; clear CJ hS5 H5e hd hd2)
      | (have hreq := C2; go_at_call 24; (with_reducible refine Calls.mono C2.out ?_); rintro e w7 ⟨⟨sa6, sn6, sc6, aa6, an6, ac6, s6, a6⟩, rfl, hI, hs, ha, hO, hq6⟩; have H6 := Lib.hid (H5b.out.made (t1 := (6, 1, 0)) (t2 := (6, 1, 1)) (by simp) (by simp) (by simp) hO hq6); have K6 := Lib.hid ((K3.out.upd (t := (6, 1, 0)) (r := rowS ⟨sa6, sn6, sc6, aa6, an6, ac6, s6, a6⟩) (.inl rfl)).upd (t := (6, 1, 1)) (r := rowA ⟨sa6, sn6, sc6, aa6, an6, ac6, s6, a6⟩) (.inl rfl)); have V6 := Lib.hid (And.intro hs (And.intro ha (Exists.intro _ hI))); simp only [Ar.v]; clear p1 p2 p3 p4 p5 p6; obtain ⟨p1, p2, p3, p4, p5, p6⟩ := PP.out _ _ _ _ H6.out K6.out; have hlt6 : b < w7.heap.size := World.block_lt_of_cell? _ _ p1; have ne7 : ¬ b = w7.heap.size := (by omega); have ne8 : ¬ w7.heap.size = b := (by omega); clear hI hs ha hO hq6 hreq C2 C3 hlt6)
      | (have hreq := C3; go_at_call 24; (with_reducible refine Calls.mono C3.out ?_); rintro e w7 ⟨⟨sa6, sn6, sc6, aa6, an6, ac6, s6, a6⟩, rfl, hI, hs, ha, hO, hq6⟩; have H6 := Lib.hid ((H5b.out.alloc (t := (7, 1, 0)) (by simp) (cs := #[.slice none 0 0, .slice none 0 0]) (E := 38) (sz := 2) (n := 1) rfl (by decide)).made (t1 := (6, 1, 0)) (t2 := (6, 1, 1)) (by simp) (by simp) (by simp) hO hq6); have K6 := Lib.hid (((K3.out.upd (t := (7, 1, 0)) (r := ⟨38, 2, some ⟨w6.heap.size, 0, none⟩, 1, 1, (#[.slice none 0 0, .slice none 0 0] : Array Value).toList⟩) (.inr ⟨rfl, by simp⟩)).upd (t := (6, 1, 0)) (r := rowS ⟨sa6, sn6, sc6, aa6, an6, ac6, s6, a6⟩) (.inl rfl)).upd (t := (6, 1, 1)) (r := rowA ⟨sa6, sn6, sc6, aa6, an6, ac6, s6, a6⟩) (.inl rfl)); have X6 := (updR_ne (R := updR (updR Q3 (7, 1, 0) ⟨38, 2, some ⟨w6.heap.size, 0, none⟩, 1, 1, (#[.slice none 0 0, .slice none 0 0] : Array Value).toList⟩) (6, 1, 0) (rowS ⟨sa6, sn6, sc6, aa6, an6, ac6, s6, a6⟩)) (r := rowA ⟨sa6, sn6, sc6, aa6, an6, ac6, s6, a6⟩) (show (7, 1, 0) ≠ (6, 1, 1) by simp)).trans ((updR_ne (show (7, 1, 0) ≠ (6, 1, 0) by simp)).trans updR_eq); have V6 := Lib.hid (And.intro hs (And.intro ha (Exists.intro _ hI))); simp only [Ar.v]; clear p1 p2 p3 p4 p5 p6; obtain ⟨p1, p2, p3, p4, p5, p6⟩ := PP.out _ _ _ _ H6.out K6.out; have x0 := H6.out.cell (t := (7, 1, 0)) (by simp) X6 0 _ rfl; have x1 := H6.out.cell (t := (7, 1, 0)) (by simp) X6 1 _ rfl; have x2 := H6.out.frozen (t := (7, 1, 0)) (by simp) X6 0; have x3 := H6.out.frozen (t := (7, 1, 0)) (by simp) X6 1; clear hI hs ha hO hq6 hreq C2 C3)
      | (have hreq := C4; go_at_call 24; (with_reducible refine Calls.mono C4.out ?_); rintro e w7 ⟨⟨sa6, sn6, sc6, aa6, an6, ac6, s6, a6⟩, rfl, hI, hs, ha, hO, hq6⟩; have H6 := Lib.hid (H5f.out.made (t1 := (6, 1, 0)) (t2 := (6, 1, 1)) (by simp) (by simp) (by simp) hO hq6); have K6 := Lib.hid ((K5f.out.upd (t := (6, 1, 0)) (r := rowS ⟨sa6, sn6, sc6, aa6, an6, ac6, s6, a6⟩) (.inl rfl)).upd (t := (6, 1, 1)) (r := rowA ⟨sa6, sn6, sc6, aa6, an6, ac6, s6, a6⟩) (.inl rfl)); have X6 := (updR_ne (R := updR Qf (6, 1, 0) (rowS ⟨sa6, sn6, sc6, aa6, an6, ac6, s6, a6⟩)) (r := rowA ⟨sa6, sn6, sc6, aa6, an6, ac6, s6, a6⟩) (show (7, 1, 0) ≠ (6, 1, 1) by simp)).trans ((updR_ne (show (7, 1, 0) ≠ (6, 1, 0) by simp)).trans F5.out); have V6 := Lib.hid (And.intro hs (And.intro ha (Exists.intro _ hI))); simp only [Ar.v]; clear p1 p2 p3 p4 p5 p6; obtain ⟨p1, p2, p3, p4, p5, p6⟩ := PP.out _ _ _ _ H6.out K6.out; clear x0 x1 x2 x3; have x0 := H6.out.cell (t := (7, 1, 0)) (by simp) X6 0 _ rfl; have x1 := H6.out.cell (t := (7, 1, 0)) (by simp) X6 1 _ rfl; have x2 := H6.out.frozen (t := (7, 1, 0)) (by simp) X6 0; have x3 := H6.out.frozen (t := (7, 1, 0)) (by simp) X6 1; clear hI hs ha hO hq6 hreq C4)
      )
    all_goals
      go_wp2_with fail
      go_meet
      first
      | exact ⟨w7.heap.size, ⟨sa6, sn6, sc6, aa6, an6, ac6, s6, a6⟩, _, g, d, g2, d2, i, d3, i2, d4, rfl, rfl, H6.out.alloc (t := (7, 1, 0)) (by simp) (cs := #[.slice sa6 sn6 sc6, .slice aa6 an6 ac6]) (E := 38) (sz := 2) (n := 1) rfl (by decide), K6.out.upd (.inr ⟨rfl, by simp⟩), ⟨updR_eq, (updR_ne (by simp)).trans ((updR_ne (by simp)).trans updR_eq), (updR_ne (by simp)).trans updR_eq⟩, V6.out⟩
      | exact ⟨_, ⟨sa6, sn6, sc6, aa6, an6, ac6, s6, a6⟩, _, g, d, g2, d2, i, d3, i2, d4, rfl, rfl, ((H6.out.put (t := (7, 1, 0)) (by simp) X6 0 (.slice sa6 sn6 sc6)).put (t := (7, 1, 0)) (by simp) updR_eq 1 (.slice aa6 an6 ac6)), (K6.out.upd (.inr ⟨rfl, by simp⟩)).upd (.inr ⟨rfl, by simp⟩), ⟨updR_eq, (updR_ne (by simp)).trans ((updR_ne (by simp)).trans ((updR_ne (by simp)).trans updR_eq)), (updR_ne (by simp)).trans ((updR_ne (by simp)).trans updR_eq)⟩, V6.out⟩
  case rest =>
    obtain ⟨g8, ⟨sa8, sn8, sc8, aa8, an8, ac8, s8, a8⟩, Qy, g, d, g2, d2, i, d3, i2, d4, rfl, rfl, H8, K8, A8, V8⟩ := hcut
    obtain ⟨U8, hU⟩ : ∃ z : World, z = wc := ⟨_, rfl⟩
    subst hU
    clear p1 p2 p3 p4 p5 p6 ne1 ne2 CI CJ SX SXD SXE
    obtain ⟨p1, p2, p3, p4, p5, p6⟩ := PP.out _ _ _ _ H8.out K8.out
    have CK := Lib.hid (H8.out.drew.kept1 (A := ⟨sa, sn, sc, aa, an, ac, s, a⟩) ⟨K8.out.n0, K8.out.n1⟩ XX.out)
    simp only [Ar.v] at CK
    go_upto_region 11 with fail
    go_region_held3 (fun v => v.cell? ⟨b, 3, none⟩ = some (.slice sa sn sc) ∧ v.cell? ⟨b, 4, none⟩ = some (.slice aa an ac)) (go_keep)
      (first
      | (go_at_call 31; (with_reducible refine Calls.mono CK.out ?_); rintro e w8 ⟨rfl, hS8⟩; have H8k := Lib.hid hS8; clear p1 p2 p3 p4 p5 p6; obtain ⟨p1, p2, p3, p4, p5, p6⟩ := PP.out _ _ _ _ hS8 K8.out; clear hS8))
    clear CK
    have CK := Lib.hid (H8k.out.drew.kept2 (A := ⟨ta, tn, tc, ba, bn, bc, t, b'⟩) ⟨K8.out.n0, K8.out.n1⟩ YY.out)
    simp only [Ar.v] at CK
    go_upto_region 12 with fail
    go_region_held3 (fun v => v.cell? ⟨b, 5, none⟩ = some (.slice ta tn tc) ∧ v.cell? ⟨b, 6, none⟩ = some (.slice ba bn bc)) (go_keep)
      (first
      | (go_at_call 31; (with_reducible refine Calls.mono CK.out ?_); rintro e w9 ⟨rfl, hS9⟩; have H9 := Lib.hid hS9; clear p1 p2 p3 p4 p5 p6; obtain ⟨p1, p2, p3, p4, p5, p6⟩ := PP.out _ _ _ _ hS9 K8.out; clear hS9))
    have C5 := Lib.hid (CRQ.out _ (XX.out _ H9.out.below) (YY.out _ H9.out.below))
    clear CK
    go_wp2_with fail
    refine C5.out.mono ?_; rintro e w10 ⟨⟨sa10, sn10, sc10, aa10, an10, ac10, s10, a10⟩, rfl, hI, hs, ha, hO, hq10⟩
    simp only at hs ha
    have H10 := Lib.hid ((H9.out.made (t1 := (6, 2, 0)) (t2 := (6, 2, 1)) (by simp) (by simp) (by simp) hO hq10).alloc (t := (7, 2, 0)) (by simp) (cs := #[.slice sa10 sn10 sc10, .slice aa10 an10 ac10]) (E := 38) (sz := 2) (n := 1) rfl (by decide))
    have hx0 := H10.out.cell (t := (7, 1, 0)) (by simp) ((updR_ne (by simp)).trans ((updR_ne (by simp)).trans ((updR_ne (by simp)).trans A8.out.box))) 0 _ rfl
    have hx1 := H10.out.cell (t := (7, 1, 0)) (by simp) ((updR_ne (by simp)).trans ((updR_ne (by simp)).trans ((updR_ne (by simp)).trans A8.out.box))) 1 _ rfl
    have hy0 := H10.out.cell (t := (7, 2, 0)) (by simp) updR_eq 0 _ rfl
    have hy1 := H10.out.cell (t := (7, 2, 0)) (by simp) updR_eq 1 _ rfl
    obtain ⟨e1, e2, w11, hI8⟩ := V8.out
    have CE := Lib.hid (eq4_any (H10.out.isA (t1 := (6, 1, 0)) (t2 := (6, 1, 1)) (B := ⟨sa8, sn8, sc8, aa8, an8, ac8, s8, a8⟩) (by simp) (by simp) hI8 ((updR_ne (by simp)).trans ((updR_ne (by simp)).trans ((updR_ne (by simp)).trans A8.out.s))) ((updR_ne (by simp)).trans ((updR_ne (by simp)).trans ((updR_ne (by simp)).trans A8.out.a)))) (H10.out.isA (t1 := (6, 2, 0)) (t2 := (6, 2, 1)) (B := ⟨sa10, sn10, sc10, aa10, an10, ac10, s10, a10⟩) (by simp) (by simp) hI ((updR_ne (by simp)).trans ((updR_ne (by simp)).trans updR_eq)) ((updR_ne (by simp)).trans updR_eq)))
    simp only [Ar.v] at CE ⊢
    try simp only at e1 e2
    rw [decide_eq_true ⟨e1.trans hs.symm, e2.trans ha.symm⟩] at CE
    have KF := Lib.hid (((K8.out.upd (t := (6, 2, 0)) (r := rowS ⟨sa10, sn10, sc10, aa10, an10, ac10, s10, a10⟩) (.inl rfl)).upd (t := (6, 2, 1)) (r := rowA ⟨sa10, sn10, sc10, aa10, an10, ac10, s10, a10⟩) (.inl rfl)).upd (t := (7, 2, 0)) (r := ⟨38, 2, some ⟨w10.heap.size, 0, none⟩, 1, 1, (#[.slice sa10 sn10 sc10, .slice aa10 an10 ac10] : Array Value).toList⟩) (.inr ⟨rfl, by simp⟩))
    clear hI hs ha hO hq10 C5 e1 e2 hI8 p1 p2 p3 p4 p5 p6
    go_wp2_with fail
    refine CE.out.mono ?_; rintro e w12 ⟨rfl, hb12⟩
    have HF : Hid (PlQ base w 32 hb Q (.returned (.bool true)) w12) := ⟨rfl, _, H10.out.via hb12, KF.out.five, KF.out.n0, KF.out.n1⟩
    clear hb12 hx0 hx1 hy0 hy1
    go_wp2
    go_ret
    exact HF.out
end
end Go.Proofs.Ytoippfoeghjdoaa

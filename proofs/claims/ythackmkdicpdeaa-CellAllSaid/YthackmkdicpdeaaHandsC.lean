/- The hands of layer 4 (two arrays, a frame, many arrays) as one part of memory. -/
import Derived.Test.YthackmkdicpdeaaPtHold
import Derived.Test.YthackmkdicpdeaaHandsXY
namespace Go.Proofs.Ythackmkdicpdeaa
open Go.RowKit Go.Lib
set_option linter.unusedVariables false
set_option linter.unusedSimpArgs false
/-- The hands of the list, each with its rows at their whole length. -/
def ManyC (R : Rws) : Prop := ∃ (mo : Option Addr) (mn mc : Nat), R (0, 4, 0) = ⟨30, 2, mo, mn, mc, (List.range mn).flatMap fun k => [(R (1, k, 0)).v, (R (1, k, 1)).v]⟩ ∧ ∀ k, k < mn → FullE 3 (R (1, k, 0)) ∧ FullE 2 (R (1, k, 1))
def OuterC (R : Rws) : Prop := ∃ (oo : Option Addr) (on oc : Nat) (ys : List Value), R (0, 5, 0) = ⟨45, 2, oo, on, oc, ys⟩
/-- What lies in the list's hands behind list: each array, and the mark; the outer row's block and room. -/
def LaidC (l : List Ar × Nat × Nat) (R : Rws) : Prop := l.1.length ≤ (R (0, 4, 0)).n ∧ ∃ (f : Nat → Nat × Nat × Nat × Nat) (gm : Nat),
  (∀ k A, l.1[k]? = some A → A.sn ≤ (f k).2.1 ∧ A.an ≤ (f k).2.2.2 ∧ R (1, k, 0) = (laid4 A.s A.a (f k).1 (f k).2.1 (f k).2.2.1 (f k).2.2.2).1 ∧ R (1, k, 1) = (laid4 A.s A.a (f k).1 (f k).2.1 (f k).2.2.1 (f k).2.2.2).2) ∧
  R (2, 0, 0) = ⟨2, 1, some ⟨gm, 0, none⟩, 1, 1, [.int .i64 (-77)]⟩ ∧
  ∃ (ys : List Value), R (0, 5, 0) = ⟨45, 2, some ⟨l.2.1, 0, none⟩, l.1.length + 1, l.2.2, ys⟩ ∧
    (∀ k A, l.1[k]? = some A → ys[k * 2]? = some (.slice (some ⟨(f k).1, 0, none⟩) A.sn (f k).2.1) ∧ ys[k * 2 + 1]? = some (.slice (some ⟨(f k).2.2.1, 0, none⟩) A.an (f k).2.2.2)) ∧
    ys[l.1.length * 2]? = some (.slice none 0 0) ∧ ys[l.1.length * 2 + 1]? = some (.slice (some ⟨gm, 0, none⟩) 1 1)
structure HnC (hb : Nat) (h1 h2 : Option (Rw × Rw)) (h3 : Option Rw) (h4 : Option (List Ar × Nat × Nat)) (R : Rws) : Prop where
  obj : R (0, 0, 0) = ⟨34, 7, some ⟨hb, 0, none⟩, 1, 1, [(R (0, 1, 0)).v, (R (0, 1, 1)).v, (R (0, 2, 0)).v, (R (0, 2, 1)).v, (R (0, 3, 0)).v, (R (0, 4, 0)).v, (R (0, 5, 0)).v]⟩
  s1 : FullE 3 (R (0, 1, 0))
  a1 : FullE 2 (R (0, 1, 1))
  s2 : FullE 3 (R (0, 2, 0))
  a2 : FullE 2 (R (0, 2, 1))
  s3 : FullE 3 (R (0, 3, 0))
  many : ManyC R
  outer : OuterC R
  n9 : R (9, 9, 0) = Rw.nil ∧ R (9, 9, 1) = Rw.nil
  k1 : ∀ r, h1 = some r → R (0, 1, 0) = r.1 ∧ R (0, 1, 1) = r.2
  k2 : ∀ r, h2 = some r → R (0, 2, 0) = r.1 ∧ R (0, 2, 1) = r.2
  k3 : ∀ r, h3 = some r → R (0, 3, 0) = r
  k4 : ∀ l, h4 = some l → LaidC l R
theorem ManyC.congr {R R' : Rws} (h : ManyC R) (h0 : R' (0, 4, 0) = R (0, 4, 0)) (h1 : ∀ t, t.1 = 1 → R' t = R t) : ManyC R' := by
  obtain ⟨mo, mn, mc, e, hf⟩ := h
  refine ⟨mo, mn, mc, ?_, fun k hk => by rw [h1 _ rfl, h1 _ rfl]; exact hf k hk⟩
  rw [h0, e]
  congr 2
  funext k
  rw [h1 _ rfl, h1 _ rfl]
theorem LaidC.congr {R R' : Rws} {l : List Ar × Nat × Nat} (h : LaidC l R) (h0 : R' (0, 5, 0) = R (0, 5, 0)) (h4 : R' (0, 4, 0) = R (0, 4, 0)) (h1 : ∀ t, t.1 = 1 → R' t = R t) (h2 : R' (2, 0, 0) = R (2, 0, 0)) : LaidC l R' := by
  obtain ⟨q0, f, gm, q1, q2, q3⟩ := h
  exact ⟨by rw [h4]; exact q0, f, gm, fun k A hk => by rw [h1 _ rfl, h1 _ rfl]; exact q1 k A hk, by rw [h2]; exact q2, by rw [h0]; exact q3⟩
theorem HnC.congr {hb : Nat} {h1 h2 : Option (Rw × Rw)} {h3 : Option Rw} {h4 : Option (List Ar × Nat × Nat)} {R R' : Rws} (h : HnC hb h1 h2 h3 h4 R) (hR : ∀ t, t.1 < 100 → R' t = R t) : HnC hb h1 h2 h3 h4 R' := by
  have q : ∀ a b c, a < 100 → R' (a, b, c) = R (a, b, c) := fun a b c ha => hR _ ha
  refine ⟨?_, ?_, ?_, ?_, ?_, ?_, ?_, ?_, ?_, ?_, ?_, ?_, ?_⟩
  · rw [q _ _ _ (by decide), q _ _ _ (by decide), q _ _ _ (by decide), q _ _ _ (by decide), q _ _ _ (by decide), q _ _ _ (by decide), q _ _ _ (by decide), q _ _ _ (by decide)]; exact h.obj
  · rw [q _ _ _ (by decide)]; exact h.s1
  · rw [q _ _ _ (by decide)]; exact h.a1
  · rw [q _ _ _ (by decide)]; exact h.s2
  · rw [q _ _ _ (by decide)]; exact h.a2
  · rw [q _ _ _ (by decide)]; exact h.s3
  · exact h.many.congr (q _ _ _ (by decide)) fun t ht => hR t (by omega)
  · obtain ⟨oo, on, oc, ys, e⟩ := h.outer; exact ⟨oo, on, oc, ys, by rw [q _ _ _ (by decide)]; exact e⟩
  · rw [q _ _ _ (by decide), q _ _ _ (by decide)]; exact h.n9
  · intro r e; rw [q _ _ _ (by decide), q _ _ _ (by decide)]; exact h.k1 r e
  · intro r e; rw [q _ _ _ (by decide), q _ _ _ (by decide)]; exact h.k2 r e
  · intro r e; rw [q _ _ _ (by decide)]; exact h.k3 r e
  · intro l e; exact (h.k4 l e).congr (q _ _ _ (by decide)) (q _ _ _ (by decide)) (fun t ht => hR t (by omega)) (q _ _ _ (by decide))
theorem HnC.cut {hb : Nat} {h1 h2 : Option (Rw × Rw)} {h3 : Option Rw} {h4 : Option (List Ar × Nat × Nat)} {R : Rws} (h : HnC hb h1 h2 h3 h4 (cutR R)) : HnC hb h1 h2 h3 h4 R := h.congr fun t ht => (cutR_at ht).symm
theorem HnC.toCut {hb : Nat} {h1 h2 : Option (Rw × Rw)} {h3 : Option Rw} {h4 : Option (List Ar × Nat × Nat)} {R : Rws} (h : HnC hb h1 h2 h3 h4 R) : HnC hb h1 h2 h3 h4 (cutR R) := h.congr fun t ht => cutR_at ht
theorem HnC.forget {hb : Nat} {h1 h2 : Option (Rw × Rw)} {h3 : Option Rw} {h4 : Option (List Ar × Nat × Nat)} {R : Rws} (h : HnC hb h1 h2 h3 h4 R) : HnC hb none none none none R :=
  ⟨h.obj, h.s1, h.a1, h.s2, h.a2, h.s3, h.many, h.outer, h.n9, fun r e => absurd e (by simp), fun r e => absurd e (by simp), fun r e => absurd e (by simp), fun r e => absurd e (by simp)⟩
/-- The hands. -/
def Pt.hands (hb : Nat) (h1 h2 : Option (Rw × Rw)) (h3 : Option Rw) (h4 : Option (List Ar × Nat × Nat)) : Pt := Pt.hold (HnC hb h1 h2 h3 h4)
section
variable {w0 w : World} {L : List Pt} {i hb : Nat} {h1 h2 : Option (Rw × Rw)} {h3 : Option Rw} {h4 : Option (List Ar × Nat × Nat)}
theorem Sp.handsOpen (H : Sp Non w0 w L) (e : L[i]? = some (Pt.hands hb h1 h2 h3 h4)) :
    ∃ R : Rws, Hold w0.heap.size w R ∧ HnC hb h1 h2 h3 h4 R ∧ ∀ (w' : World) (R' : Rws) (h1' h2' : Option (Rw × Rw)) (h3' : Option Rw) (h4' : Option (List Ar × Nat × Nat)), Hold w0.heap.size w' R' → Below w0.heap.size w w' → (∀ t, 100 ≤ t.1 → R' t = R t) → HnC hb h1' h2' h3' h4' R' → Sp Non w0 w' (L.set i (Pt.hands hb h1' h2' h3' h4')) := by
  obtain ⟨R, q1, q2, q3⟩ := H.holdOpen e
  exact ⟨R, q1, q2.cut, fun w' R' a b c d hH hB hG hC => q3 w' R' _ hH hB hG hC.toCut⟩
theorem Sp.handsForget (H : Sp Non w0 w L) (e : L[i]? = some (Pt.hands hb h1 h2 h3 h4)) : Sp Non w0 w (L.set i (Pt.hands hb none none none none)) := by
  obtain ⟨R, q1, q2, q3⟩ := H.handsOpen e
  exact q3 w R _ _ _ _ q1 (Below.refl _ _) (fun _ _ => rfl) q2.forget
theorem Sp.isX {s a : List Int} {g d g2 d2 : Nat} (H : Sp Non w0 w L) (e : L[i]? = some (Pt.hands hb (some (laid4 s a g d g2 d2)) (h2) h3 h4)) {sa aa : Option Addr} {sn sc an ac : Nat} {w1 : World} (hI : Ar.Is ⟨sa, sn, sc, aa, an, ac, s, a⟩ w1) (hd : sn ≤ d) (hd2 : an ≤ d2) : Ar.Is ⟨some ⟨g, 0, none⟩, sn, d, some ⟨g2, 0, none⟩, an, d2, s, a⟩ w := by
  obtain ⟨R, h, b, -⟩ := H.handsOpen e
  have l1 : s.length = sn := hI.shp.len
  have l2 : a.length = an := hI.ats.len
  have b1 := hI.shp.big
  have b2 := hI.ats.big
  simp only at b1 b2
  obtain ⟨e1, e2⟩ := b.k1 _ rfl
  have k1 := ls_laid4 h e1 (by omega) (by omega) hI.shp.rng
  have k2 := ls_laid4 h e2 (by omega) (by omega) hI.ats.rng
  rw [l1] at k1
  rw [l2] at k2
  exact ⟨k1, k2⟩
theorem Sp.arrayX (H : Sp Non w0 w L) (e : L[i]? = some (Pt.hands hb h1 h2 h3 h4)) {A : Ar} (hl : A.Is w0) :
    Calls Try.prog 35 #[.pointer (some ⟨hb, 0, none⟩), A.v] w (fun e w' => ∃ g d g2 d2, e = .returned (.agg #[.slice (some ⟨g, 0, none⟩) A.sn d, .slice (some ⟨g2, 0, none⟩) A.an d2]) ∧ A.sn ≤ d ∧ A.an ≤ d2 ∧ Sp Non w0 w' (L.set i (Pt.hands hb (some (laid4 A.s A.a g d g2 d2)) (h2) h3 h4))) := by
  have hbel := H.belowN
  obtain ⟨R, h, b, put⟩ := H.handsOpen e
  obtain ⟨so, sd, S, e1⟩ := b.s1
  obtain ⟨ao, ad, S2, e2⟩ := b.a1
  refine (array4_any h (tp := (0, 0, 0)) (tr := (0, 1, 0)) (ta := (0, 1, 1)) (by simp) (by simp) b.n9 b.obj (j := 0) (ho := so) (hm := sd) (hc := sd) (by simp [e1, Rw.v]) e1 (ao := ao) (m := ad) (c := ad) (by simp [e2, Rw.v]) e2 (fun wy hy => hl.below (hbel.trans hy) (Nat.le_refl _))).mono ?_
  rintro e w' ⟨g, d, g2, d2, R', rfl, hd, hd2, hH, k1, k2, k3, kN, hbw⟩
  have kM : ∀ a b c, a ≠ 0 ∨ (b ≠ 0 ∧ b ≠ 1) → R' (a, b, c) = R (a, b, c) := fun a b c hh => kN _ (fun e => by simp only [Prod.mk.injEq] at e; omega) (fun e => by simp only [Prod.mk.injEq] at e; omega) (fun e => by simp only [Prod.mk.injEq] at e; omega)
  refine ⟨g, d, g2, d2, rfl, by omega, by omega, put w' R' _ _ _ _ hH hbw (fun t ht => kN t (fun e => by rw [e] at ht; simp at ht) (fun e => by rw [e] at ht; simp at ht) (fun e => by rw [e] at ht; simp at ht)) ?_⟩
  have m1 := kM 0 3 0 (by decide)
  have m2 := kM 0 4 0 (by decide)
  have m3 := kM 0 5 0 (by decide)
  have q1 := kM 0 2 0 (by decide)
  have q2 := kM 0 2 1 (by decide)
  refine ⟨by rw [k3, k1, k2, q1, q2, m1, m2, m3]; rfl, ?_, ?_, ?_, ?_, by rw [m1]; exact b.s3, b.many.congr m2 (fun t ht => by obtain ⟨x, y, z⟩ := t; simp only at ht; exact kM x y z (by omega)), by obtain ⟨oo, on, oc, ys, e⟩ := b.outer; exact ⟨oo, on, oc, ys, by rw [m3]; exact e⟩, by rw [kM 9 9 0 (by decide), kM 9 9 1 (by decide)]; exact b.n9, ?_, ?_, fun r e => by rw [m1]; exact b.k3 r e, fun l e => (b.k4 l e).congr m3 m2 (fun t ht => by obtain ⟨x, y, z⟩ := t; simp only at ht; exact kM x y z (by omega)) (kM 2 0 0 (by decide))⟩
  · exact ⟨_, _, _, k1⟩
  · exact ⟨_, _, _, k2⟩
  · rw [q1]; exact b.s2
  · rw [q2]; exact b.a2
  · intro r e; simp only [Option.some.injEq] at e; subst e; exact ⟨k1, k2⟩
  · intro r e; rw [q1, q2]; exact b.k2 r e
theorem Sp.keptX {A : Ar} {g d g2 d2 : Nat} (H : Sp Non w0 w L) (e : L[i]? = some (Pt.hands hb (some (laid4 A.s A.a g d g2 d2)) (h2) h3 h4)) (hl : A.Is w0) :
    Calls Try.prog 36 #[.pointer (some ⟨hb, 0, none⟩), A.v] w (fun e w' => e = .returned (.bool true) ∧ Sp Non w0 w' (L.set i (Pt.hands hb (none) (h2) h3 h4))) := by
  have hbel := H.belowN
  obtain ⟨R, h, b, put⟩ := H.handsOpen e
  obtain ⟨e1, e2⟩ := b.k1 _ rfl
  simp only [laid4] at e1 e2
  refine (kept4_any h (tp := (0, 0, 0)) (tr := (0, 1, 0)) (ta := (0, 1, 1)) (by simp) (by simp) b.n9.1 b.obj (j := 0) (ho := some ⟨g, 0, none⟩) (hm := d) (by simp [e1, Rw.v]) e1 (ao := some ⟨g2, 0, none⟩) (d := d2) (by simp [e2, Rw.v]) e2 (fun wy hy => hl.below (hbel.trans hy) (Nat.le_refl _)) (mkd_good _ _ _) (mkd_good _ _ _)).mono ?_
  rintro e w' ⟨rfl, R', S1, S2, hH, k1, k2, kN, hbw⟩
  have kM : ∀ a b c, a ≠ 0 ∨ b ≠ 1 → R' (a, b, c) = R (a, b, c) := fun a b c hh => kN _ (fun e => by simp only [Prod.mk.injEq] at e; omega) (fun e => by simp only [Prod.mk.injEq] at e; omega)
  refine ⟨rfl, put w' R' _ _ _ _ hH hbw (fun t ht => kN t (fun e => by rw [e] at ht; simp at ht) (fun e => by rw [e] at ht; simp at ht)) ?_⟩
  have m0 := kM 0 0 0 (by decide)
  have m1 := kM 0 3 0 (by decide)
  have m2 := kM 0 4 0 (by decide)
  have m3 := kM 0 5 0 (by decide)
  have q1 := kM 0 2 0 (by decide)
  have q2 := kM 0 2 1 (by decide)
  refine ⟨by rw [m0, b.obj, k1, k2, q1, q2, m1, m2, m3, e1, e2]; rfl, ?_, ?_, ?_, ?_, by rw [m1]; exact b.s3, b.many.congr m2 (fun t ht => by obtain ⟨x, y, z⟩ := t; simp only at ht; exact kM x y z (by omega)), by obtain ⟨oo, on, oc, ys, e⟩ := b.outer; exact ⟨oo, on, oc, ys, by rw [m3]; exact e⟩, by rw [kM 9 9 0 (by decide), kM 9 9 1 (by decide)]; exact b.n9, ?_, ?_, fun r e => by rw [m1]; exact b.k3 r e, fun l e => (b.k4 l e).congr m3 m2 (fun t ht => by obtain ⟨x, y, z⟩ := t; simp only at ht; exact kM x y z (by omega)) (kM 2 0 0 (by decide))⟩
  · exact ⟨_, _, _, k1⟩
  · exact ⟨_, _, _, k2⟩
  · rw [q1]; exact b.s2
  · rw [q2]; exact b.a2
  · intro r e; cases e
  · intro r e; rw [q1, q2]; exact b.k2 r e
theorem Sp.isY {s a : List Int} {g d g2 d2 : Nat} (H : Sp Non w0 w L) (e : L[i]? = some (Pt.hands hb (h1) (some (laid4 s a g d g2 d2)) h3 h4)) {sa aa : Option Addr} {sn sc an ac : Nat} {w1 : World} (hI : Ar.Is ⟨sa, sn, sc, aa, an, ac, s, a⟩ w1) (hd : sn ≤ d) (hd2 : an ≤ d2) : Ar.Is ⟨some ⟨g, 0, none⟩, sn, d, some ⟨g2, 0, none⟩, an, d2, s, a⟩ w := by
  obtain ⟨R, h, b, -⟩ := H.handsOpen e
  have l1 : s.length = sn := hI.shp.len
  have l2 : a.length = an := hI.ats.len
  have b1 := hI.shp.big
  have b2 := hI.ats.big
  simp only at b1 b2
  obtain ⟨e1, e2⟩ := b.k2 _ rfl
  have k1 := ls_laid4 h e1 (by omega) (by omega) hI.shp.rng
  have k2 := ls_laid4 h e2 (by omega) (by omega) hI.ats.rng
  rw [l1] at k1
  rw [l2] at k2
  exact ⟨k1, k2⟩
theorem Sp.arrayY (H : Sp Non w0 w L) (e : L[i]? = some (Pt.hands hb h1 h2 h3 h4)) {A : Ar} (hl : A.Is w0) :
    Calls Try.prog 35 #[.pointer (some ⟨hb, 2, none⟩), A.v] w (fun e w' => ∃ g d g2 d2, e = .returned (.agg #[.slice (some ⟨g, 0, none⟩) A.sn d, .slice (some ⟨g2, 0, none⟩) A.an d2]) ∧ A.sn ≤ d ∧ A.an ≤ d2 ∧ Sp Non w0 w' (L.set i (Pt.hands hb (h1) (some (laid4 A.s A.a g d g2 d2)) h3 h4))) := by
  have hbel := H.belowN
  obtain ⟨R, h, b, put⟩ := H.handsOpen e
  obtain ⟨so, sd, S, e1⟩ := b.s2
  obtain ⟨ao, ad, S2, e2⟩ := b.a2
  refine (array4_any h (tp := (0, 0, 0)) (tr := (0, 2, 0)) (ta := (0, 2, 1)) (by simp) (by simp) b.n9 b.obj (j := 2) (ho := so) (hm := sd) (hc := sd) (by simp [e1, Rw.v]) e1 (ao := ao) (m := ad) (c := ad) (by simp [e2, Rw.v]) e2 (fun wy hy => hl.below (hbel.trans hy) (Nat.le_refl _))).mono ?_
  rintro e w' ⟨g, d, g2, d2, R', rfl, hd, hd2, hH, k1, k2, k3, kN, hbw⟩
  have kM : ∀ a b c, a ≠ 0 ∨ (b ≠ 0 ∧ b ≠ 2) → R' (a, b, c) = R (a, b, c) := fun a b c hh => kN _ (fun e => by simp only [Prod.mk.injEq] at e; omega) (fun e => by simp only [Prod.mk.injEq] at e; omega) (fun e => by simp only [Prod.mk.injEq] at e; omega)
  refine ⟨g, d, g2, d2, rfl, by omega, by omega, put w' R' _ _ _ _ hH hbw (fun t ht => kN t (fun e => by rw [e] at ht; simp at ht) (fun e => by rw [e] at ht; simp at ht) (fun e => by rw [e] at ht; simp at ht)) ?_⟩
  have m1 := kM 0 3 0 (by decide)
  have m2 := kM 0 4 0 (by decide)
  have m3 := kM 0 5 0 (by decide)
  have q1 := kM 0 1 0 (by decide)
  have q2 := kM 0 1 1 (by decide)
  refine ⟨by rw [k3, k1, k2, q1, q2, m1, m2, m3]; rfl, ?_, ?_, ?_, ?_, by rw [m1]; exact b.s3, b.many.congr m2 (fun t ht => by obtain ⟨x, y, z⟩ := t; simp only at ht; exact kM x y z (by omega)), by obtain ⟨oo, on, oc, ys, e⟩ := b.outer; exact ⟨oo, on, oc, ys, by rw [m3]; exact e⟩, by rw [kM 9 9 0 (by decide), kM 9 9 1 (by decide)]; exact b.n9, ?_, ?_, fun r e => by rw [m1]; exact b.k3 r e, fun l e => (b.k4 l e).congr m3 m2 (fun t ht => by obtain ⟨x, y, z⟩ := t; simp only at ht; exact kM x y z (by omega)) (kM 2 0 0 (by decide))⟩
  · rw [q1]; exact b.s1
  · rw [q2]; exact b.a1
  · exact ⟨_, _, _, k1⟩
  · exact ⟨_, _, _, k2⟩
  · intro r e; rw [q1, q2]; exact b.k1 r e
  · intro r e; simp only [Option.some.injEq] at e; subst e; exact ⟨k1, k2⟩
theorem Sp.keptY {A : Ar} {g d g2 d2 : Nat} (H : Sp Non w0 w L) (e : L[i]? = some (Pt.hands hb (h1) (some (laid4 A.s A.a g d g2 d2)) h3 h4)) (hl : A.Is w0) :
    Calls Try.prog 36 #[.pointer (some ⟨hb, 2, none⟩), A.v] w (fun e w' => e = .returned (.bool true) ∧ Sp Non w0 w' (L.set i (Pt.hands hb (h1) (none) h3 h4))) := by
  have hbel := H.belowN
  obtain ⟨R, h, b, put⟩ := H.handsOpen e
  obtain ⟨e1, e2⟩ := b.k2 _ rfl
  simp only [laid4] at e1 e2
  refine (kept4_any h (tp := (0, 0, 0)) (tr := (0, 2, 0)) (ta := (0, 2, 1)) (by simp) (by simp) b.n9.1 b.obj (j := 2) (ho := some ⟨g, 0, none⟩) (hm := d) (by simp [e1, Rw.v]) e1 (ao := some ⟨g2, 0, none⟩) (d := d2) (by simp [e2, Rw.v]) e2 (fun wy hy => hl.below (hbel.trans hy) (Nat.le_refl _)) (mkd_good _ _ _) (mkd_good _ _ _)).mono ?_
  rintro e w' ⟨rfl, R', S1, S2, hH, k1, k2, kN, hbw⟩
  have kM : ∀ a b c, a ≠ 0 ∨ b ≠ 2 → R' (a, b, c) = R (a, b, c) := fun a b c hh => kN _ (fun e => by simp only [Prod.mk.injEq] at e; omega) (fun e => by simp only [Prod.mk.injEq] at e; omega)
  refine ⟨rfl, put w' R' _ _ _ _ hH hbw (fun t ht => kN t (fun e => by rw [e] at ht; simp at ht) (fun e => by rw [e] at ht; simp at ht)) ?_⟩
  have m0 := kM 0 0 0 (by decide)
  have m1 := kM 0 3 0 (by decide)
  have m2 := kM 0 4 0 (by decide)
  have m3 := kM 0 5 0 (by decide)
  have q1 := kM 0 1 0 (by decide)
  have q2 := kM 0 1 1 (by decide)
  refine ⟨by rw [m0, b.obj, k1, k2, q1, q2, m1, m2, m3, e1, e2]; rfl, ?_, ?_, ?_, ?_, by rw [m1]; exact b.s3, b.many.congr m2 (fun t ht => by obtain ⟨x, y, z⟩ := t; simp only at ht; exact kM x y z (by omega)), by obtain ⟨oo, on, oc, ys, e⟩ := b.outer; exact ⟨oo, on, oc, ys, by rw [m3]; exact e⟩, by rw [kM 9 9 0 (by decide), kM 9 9 1 (by decide)]; exact b.n9, ?_, ?_, fun r e => by rw [m1]; exact b.k3 r e, fun l e => (b.k4 l e).congr m3 m2 (fun t ht => by obtain ⟨x, y, z⟩ := t; simp only at ht; exact kM x y z (by omega)) (kM 2 0 0 (by decide))⟩
  · rw [q1]; exact b.s1
  · rw [q2]; exact b.a1
  · exact ⟨_, _, _, k1⟩
  · exact ⟨_, _, _, k2⟩
  · intro r e; rw [q1, q2]; exact b.k1 r e
  · intro r e; cases e
/-- What lies in the frame's hand. -/
def laidF (s : List Int) (g d : Nat) : Rw := ⟨3, 1, some ⟨g, 0, none⟩, d, d, (mkd mkS s d).map (Value.int .i64)⟩
theorem Sp.isF {s : List Int} {g d : Nat} (H : Sp Non w0 w L) (e : L[i]? = some (Pt.hands hb h1 h2 (some (laidF s g d)) h4)) {sa : Option Addr} {sn sc : Nat} {w1 : World} (hI : Ls w1 sa sn sc s) (hd : sn ≤ d) : Ls w (some ⟨g, 0, none⟩) sn d s := by
  obtain ⟨R, h, b, -⟩ := H.handsOpen e
  have l1 : s.length = sn := hI.len
  have b1 := hI.big
  have k1 := ls_laid4 h (b.k3 _ rfl) (by omega) (by omega) hI.rng
  rw [l1] at k1
  exact k1
theorem Sp.intsF (H : Sp Non w0 w L) (e : L[i]? = some (Pt.hands hb h1 h2 h3 h4)) {sa : Option Addr} {sn sc : Nat} {s : List Int} (hl : Ls w0 sa sn sc s) :
    Calls Try.prog 32 #[.pointer (some ⟨hb, 4, none⟩), .slice sa sn sc] w (fun e w' => ∃ g d, e = .returned (.slice (some ⟨g, 0, none⟩) sn d) ∧ sn ≤ d ∧ Sp Non w0 w' (L.set i (Pt.hands hb h1 h2 (some (laidF s g d)) h4))) := by
  have hbel := H.belowN
  obtain ⟨R, h, b, put⟩ := H.handsOpen e
  obtain ⟨so, sd, S, e1⟩ := b.s3
  refine (ints_any h (tp := (0, 0, 0)) (tr := (0, 3, 0)) (by simp) b.obj (j := 4) (ao := so) (m := sd) (c := sd) (by simp [e1, Rw.v]) e1 (fun wy hy => hl.below (hbel.trans hy) (Nat.le_refl _))).mono ?_
  rintro e w' ⟨g, d, R', rfl, hd, hH, k1, k3, kN, hbw⟩
  have kM : ∀ a b c, a ≠ 0 ∨ (b ≠ 0 ∧ b ≠ 3) → R' (a, b, c) = R (a, b, c) := fun a b c hh => kN _ (fun e => by simp only [Prod.mk.injEq] at e; omega) (fun e => by simp only [Prod.mk.injEq] at e; omega)
  refine ⟨g, d, rfl, by omega, put w' R' _ _ _ _ hH hbw (fun t ht => kN t (fun e => by rw [e] at ht; simp at ht) (fun e => by rw [e] at ht; simp at ht)) ?_⟩
  have m2 := kM 0 4 0 (by decide)
  have m3 := kM 0 5 0 (by decide)
  have q1 := kM 0 1 0 (by decide)
  have q2 := kM 0 1 1 (by decide)
  have q3 := kM 0 2 0 (by decide)
  have q4 := kM 0 2 1 (by decide)
  refine ⟨by rw [k3, k1, q1, q2, q3, q4, m2, m3]; rfl, by rw [q1]; exact b.s1, by rw [q2]; exact b.a1, by rw [q3]; exact b.s2, by rw [q4]; exact b.a2, ⟨_, _, _, k1⟩, b.many.congr m2 (fun t ht => by obtain ⟨x, y, z⟩ := t; simp only at ht; exact kM x y z (by omega)), by obtain ⟨oo, on, oc, ys, e⟩ := b.outer; exact ⟨oo, on, oc, ys, by rw [m3]; exact e⟩, by rw [kM 9 9 0 (by decide), kM 9 9 1 (by decide)]; exact b.n9, fun r e => by rw [q1, q2]; exact b.k1 r e, fun r e => by rw [q3, q4]; exact b.k2 r e, fun r e => by simp only [Option.some.injEq] at e; subst e; exact k1, fun l e => (b.k4 l e).congr m3 m2 (fun t ht => by obtain ⟨x, y, z⟩ := t; simp only at ht; exact kM x y z (by omega)) (kM 2 0 0 (by decide))⟩
theorem Sp.keptF {s : List Int} {g d : Nat} (H : Sp Non w0 w L) (e : L[i]? = some (Pt.hands hb h1 h2 (some (laidF s g d)) h4)) {sa : Option Addr} {sn sc : Nat} (hl : Ls w0 sa sn sc s) :
    Calls Try.prog 33 #[.pointer (some ⟨hb, 4, none⟩), .slice sa sn sc] w (fun e w' => e = .returned (.bool true) ∧ Sp Non w0 w' (L.set i (Pt.hands hb h1 h2 none h4))) := by
  have hbel := H.belowN
  obtain ⟨R, h, b, put⟩ := H.handsOpen e
  have e1 := b.k3 _ rfl
  simp only [laidF] at e1
  refine (intsKept_any h (tp := (0, 0, 0)) (tr := (0, 3, 0)) (by simp) b.obj (j := 4) (ao := some ⟨g, 0, none⟩) (d := d) (by simp [e1, Rw.v]) e1 (fun wy hy => hl.below (hbel.trans hy) (Nat.le_refl _)) (mkd_good _ _ _)).mono ?_
  rintro e w' ⟨rfl, R', S1, hH, k1, kN, hbw⟩
  have kM : ∀ a b c, a ≠ 0 ∨ b ≠ 3 → R' (a, b, c) = R (a, b, c) := fun a b c hh => kN _ (fun e => by simp only [Prod.mk.injEq] at e; omega)
  refine ⟨rfl, put w' R' _ _ _ _ hH hbw (fun t ht => kN t (fun e => by rw [e] at ht; simp at ht)) ?_⟩
  have m0 := kM 0 0 0 (by decide)
  have m2 := kM 0 4 0 (by decide)
  have m3 := kM 0 5 0 (by decide)
  have q1 := kM 0 1 0 (by decide)
  have q2 := kM 0 1 1 (by decide)
  have q3 := kM 0 2 0 (by decide)
  have q4 := kM 0 2 1 (by decide)
  refine ⟨by rw [m0, b.obj, k1, q1, q2, q3, q4, m2, m3, e1]; rfl, by rw [q1]; exact b.s1, by rw [q2]; exact b.a1, by rw [q3]; exact b.s2, by rw [q4]; exact b.a2, ⟨_, _, _, k1⟩, b.many.congr m2 (fun t ht => by obtain ⟨x, y, z⟩ := t; simp only at ht; exact kM x y z (by omega)), by obtain ⟨oo, on, oc, ys, e⟩ := b.outer; exact ⟨oo, on, oc, ys, by rw [m3]; exact e⟩, by rw [kM 9 9 0 (by decide), kM 9 9 1 (by decide)]; exact b.n9, fun r e => by rw [q1, q2]; exact b.k1 r e, fun r e => by rw [q3, q4]; exact b.k2 r e, fun r e => absurd e (by simp), fun l e => (b.k4 l e).congr m3 m2 (fun t ht => by obtain ⟨x, y, z⟩ := t; simp only at ht; exact kM x y z (by omega)) (kM 2 0 0 (by decide))⟩
end
end Go.Proofs.Ythackmkdicpdeaa

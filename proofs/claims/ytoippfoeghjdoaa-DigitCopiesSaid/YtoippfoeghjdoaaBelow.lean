/- Small laws on worlds that lie below one another. -/
import Derived.Test.YtoippfoeghjdoaaArrFill
namespace Go.Proofs.Ytoippfoeghjdoaa
open Go.RowKit Go.Lib
set_option linter.unusedVariables false
set_option linter.unusedSimpArgs false
theorem abal (w : World) (o : Obj) : Below w.heap.size w (w.alloc o) := (Below.refl _ _).alloc (Nat.le_refl _) _
theorem abvia {w W1 W2 : World} (h : Below w.heap.size w W1) (h2 : Below W1.heap.size W1 W2) : Below w.heap.size w W2 := h.trans (h2.mono h.size)
theorem adrew (w : World) (n : Nat) : Below w.heap.size w (w.drewN n) := below_drewN (Below.refl _ _) n
theorem adrew1 (w : World) : Below w.heap.size w w.drew := (Below.refl _ _).drew
theorem BoxA.lt' {W W' : World} {b B : Nat} {u v : Value} (h : BoxA W b u v) (hb : Below B W W') : b < W'.heap.size := Nat.lt_of_lt_of_le h.lt hb.size
/-- A box of one value. -/
structure Box1 (W : World) (b : Nat) (u : Value) : Prop where
  c0 : W.cell? ⟨b, 0, none⟩ = some u
  f0 : W.frozen? ⟨b, 0, none⟩ = false
  lt : b < W.heap.size
theorem Box1.below {W W' : World} {b : Nat} {u : Value} (h : Box1 W b u) {B : Nat} (hb : Below B W W') (hB : b < B) : Box1 W' b u :=
  ⟨(hb.cell (p := ⟨b, 0, none⟩) hB).trans h.c0, (hb.frozen (p := ⟨b, 0, none⟩) hB).trans h.f0, Nat.lt_of_lt_of_le h.lt hb.size⟩
theorem Box1.via {W W' : World} {b : Nat} {u : Value} (h : Box1 W b u) (hb : Below W.heap.size W W') : Box1 W' b u := h.below hb h.lt
theorem BoxA.via {W W' : World} {b : Nat} {u v : Value} (h : BoxA W b u v) (hb : Below W.heap.size W W') : BoxA W' b u v := h.below hb h.lt
theorem Ar.Is.via {A : Ar} {w w' : World} (h : A.Is w) (hb : Below w.heap.size w w') : A.Is w' := h.below hb (Nat.le_refl _)
theorem Ls.via {w w' : World} {ao : Option Addr} {n c : Nat} {zs : List Int} (h : Ls w ao n c zs) (hb : Below w.heap.size w w') : Ls w' ao n c zs := h.below hb (Nat.le_refl _)
theorem Box1.new (W : World) (T : TypeId) (u : Value) : Box1 (W.alloc (.cells #[u] T)) W.heap.size u := ⟨by simp [go_sem], by simp [go_sem], by simp⟩
theorem FillMid.next {w' wx wy : World} {b8 n c1 N g : Nat} {ao1 : Option Addr} {s z : List Int} (h : FillMid w' wx b8 n ao1 c1 N g s z) (hb : Below wx.heap.size wx wy) : FillMid w' wy b8 n ao1 c1 N g s z :=
  ⟨h.box.via hb, h.le, h.L1.via hb, own_below h.O1 hb (Nat.le_refl _), own_below h.O2 hb (Nat.le_refl _), h.ne, h.n1, h.n2, abvia h.below hb⟩
/-- An empty answer. -/
theorem made_nil {w w' : World} (e : Int) (h : Below w.heap.size w w') : MadeE w [] [] e (.returned (.tuple #[.agg #[.slice none 0 0, .slice none 0 0], .int .i64 e])) w' :=
  ⟨⟨none, 0, 0, none, 0, 0, [], []⟩, rfl, Ar.is_nil _, rfl, rfl, Ar.own_nil _ _, h⟩
/-- The answer that was made out of a copied shape and a row. -/
theorem made_mid {w w' wr : World} {b8 n c1 N g b : Nat} {ao1 : Option Addr} {s z : List Int} (h : FillMid w' wr b8 n ao1 c1 N g s z) (hw : Below w.heap.size w w') (hb : b < w'.heap.size) (hb2 : w.heap.size ≤ b) (hN : N ≤ 1000000) (hr : ∀ i, -9223372036854775808 ≤ z.getD i 0 ∧ z.getD i 0 ≤ 9223372036854775807) (u v : Value) :
    MadeE w s z 0 (.returned (.tuple #[.agg #[.slice ao1 n c1, .slice (some ⟨g, 0, none⟩) N N], .int .i64 0])) ((wr.setCell ⟨b, 0, none⟩ u).setCell ⟨b, 1, none⟩ v) := by
  have hs := hw.size
  refine made_mk 0 (((hw.trans (h.below.mono hs)).setCell (by dsimp only; omega) _).setCell (by dsimp only; omega) _) (own_mono (ownsRow_setCell_below (ownsRow_setCell_below h.O1 (by dsimp only; omega) _) (by dsimp only; omega) _) hs) (own_mono (ownsRow_setCell_below (ownsRow_setCell_below h.O2 (by dsimp only; omega) _) (by dsimp only; omega) _) hs) ?_ h.L1.big (by omega) h.L1.rng hr
  intro q h1 h2
  simp [Value.ownBlock] at h2
  subst h2
  exact h.ne h1
end Go.Proofs.Ytoippfoeghjdoaa

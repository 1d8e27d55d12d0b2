/- Two hands at a round's head; a block of cells that may be written. -/
import Derived.Test.YtoippfoeghjdoaaHand3Lay
namespace Go.Proofs.Ytoippfoeghjdoaa
open Go.RowKit Go.Lib
set_option linter.unusedVariables false
set_option linter.unusedSimpArgs false
attribute [local go_sem] alloc_drewN setCell_drewN

/-- Both hands at a round's head. -/
structure RndI (w wr : World) (hb gb : Nat) (H G : Hd) : Prop where
  h : H.Is w.heap.size wr
  g : G.Is w.heap.size wr
  eh : H.hb = hb
  eg : G.hb = gb
  dis : ∀ j, H.foot j → ¬ G.foot j
  below : Below w.heap.size w wr
theorem RndI.via {w wr wx : World} {hb gb : Nat} {H G : Hd} (h : RndI w wr hb gb H G) (hb' : Below wr.heap.size wr wx) : RndI w wx hb gb H G :=
  ⟨h.h.via hb', h.g.via hb', h.eh, h.eg, h.dis, abvia h.below hb'⟩
theorem RndI.new {w w1 : World} (T : TypeId) (h : Below w.heap.size w w1) : RndI w ((w1.alloc (.cells #[.slice none 0 0, .slice none 0 0] T)).alloc (.cells #[.slice none 0 0, .slice none 0 0] T)) w1.heap.size (w1.heap.size + 1) ⟨w1.heap.size, none, 0, none, 0, [], []⟩ ⟨w1.heap.size + 1, none, 0, none, 0, [], []⟩ := by
  have hs := h.size
  refine ⟨⟨(BoxA.new _ _ _ _).via (abal _ _), World.ownsRow_nil _ _ _ _, World.ownsRow_nil _ _ _ _, hs, by simp [Value.ownBlock], by simp [Value.ownBlock], fun g hg => by simp [Value.ownBlock] at hg, .inl ⟨rfl, rfl⟩⟩,
    ⟨by simpa using BoxA.new (w1.alloc (.cells #[.slice none 0 0, .slice none 0 0] T)) T (.slice none 0 0) (.slice none 0 0), World.ownsRow_nil _ _ _ _, World.ownsRow_nil _ _ _ _, by simp only; omega, by simp [Value.ownBlock], by simp [Value.ownBlock], fun g hg => by simp [Value.ownBlock] at hg, .inl ⟨rfl, rfl⟩⟩, rfl, rfl, ?_, abvia h (abvia (abal _ _) (abal _ _))⟩
  intro j hj hg
  rcases hj with hj | hj | hj
  · rcases hg with hg | hg | hg
    · simp only at hj hg; omega
    · simp [Value.ownBlock] at hg
    · simp [Value.ownBlock] at hg
  · simp [Value.ownBlock] at hj
  · simp [Value.ownBlock] at hj
/-- A block of cells that may be written. -/
structure BoxN (W : World) (b : Nat) (vs : Array Value) : Prop where
  c : ∀ j v, vs[j]? = some v → W.cell? ⟨b, j, none⟩ = some v
  f : ∀ j, W.frozen? ⟨b, j, none⟩ = false
  lt : b < W.heap.size
theorem BoxN.out {F : Nat → Prop} {W W' : World} {b : Nat} {vs : Array Value} (h : BoxN W b vs) (ho : Out F W W') (hn : ¬ F b) : BoxN W' b vs :=
  ⟨fun j v hj => (ho.cell (p := ⟨b, j, none⟩) h.lt hn).trans (h.c j v hj), fun j => (ho.frozen (p := ⟨b, j, none⟩) h.lt hn).trans (h.f j), Nat.lt_of_lt_of_le h.lt ho.size⟩
theorem BoxN.new (W : World) (vs : Array Value) (T : TypeId) : BoxN (W.alloc (.cells vs T)) W.heap.size vs :=
  ⟨fun j v hj => by rw [World.cell?_alloc_at _ _ _ _ rfl]; exact hj, fun j => World.frozen?_alloc_at _ _ _ _ rfl, by simp⟩
theorem BoxN.set34 {W : World} {b : Nat} {c0 c1 c2 c3 c4 c5 c6 : Value} (h : BoxN W b #[c0, c1, c2, c3, c4, c5, c6]) (u v : Value) : BoxN ((W.setCell ⟨b, 3, none⟩ u).setCell ⟨b, 4, none⟩ v) b #[c0, c1, c2, u, v, c5, c6] := by
  have e0 := h.c 0 _ rfl
  have e1 := h.c 1 _ rfl
  have e2 := h.c 2 _ rfl
  have e3 := h.c 3 _ rfl
  have e4 := h.c 4 _ rfl
  have e5 := h.c 5 _ rfl
  have e6 := h.c 6 _ rfl
  refine ⟨fun j x hj => ?_, fun j => ?_, by simpa using h.lt⟩
  · match j, hj with
    | 0, hj => simp at hj; subst hj; simp [go_sem, *]
    | 1, hj => simp at hj; subst hj; simp [go_sem, *]
    | 2, hj => simp at hj; subst hj; simp [go_sem, *]
    | 3, hj => simp at hj; subst hj; simp [go_sem, *]
    | 4, hj => simp at hj; subst hj; simp [go_sem, *]
    | 5, hj => simp at hj; subst hj; simp [go_sem, *]
    | 6, hj => simp at hj; subst hj; simp [go_sem, *]
    | j + 7, hj => simp at hj
  · have := h.f j
    simp [go_sem, *]
theorem BoxN.set56 {W : World} {b : Nat} {c0 c1 c2 c3 c4 c5 c6 : Value} (h : BoxN W b #[c0, c1, c2, c3, c4, c5, c6]) (u v : Value) : BoxN ((W.setCell ⟨b, 5, none⟩ u).setCell ⟨b, 6, none⟩ v) b #[c0, c1, c2, c3, c4, u, v] := by
  have e0 := h.c 0 _ rfl
  have e1 := h.c 1 _ rfl
  have e2 := h.c 2 _ rfl
  have e3 := h.c 3 _ rfl
  have e4 := h.c 4 _ rfl
  have e5 := h.c 5 _ rfl
  have e6 := h.c 6 _ rfl
  refine ⟨fun j x hj => ?_, fun j => ?_, by simpa using h.lt⟩
  · match j, hj with
    | 0, hj => simp at hj; subst hj; simp [go_sem, *]
    | 1, hj => simp at hj; subst hj; simp [go_sem, *]
    | 2, hj => simp at hj; subst hj; simp [go_sem, *]
    | 3, hj => simp at hj; subst hj; simp [go_sem, *]
    | 4, hj => simp at hj; subst hj; simp [go_sem, *]
    | 5, hj => simp at hj; subst hj; simp [go_sem, *]
    | 6, hj => simp at hj; subst hj; simp [go_sem, *]
    | j + 7, hj => simp at hj
  · have := h.f j
    simp [go_sem, *]
theorem two_out (W : World) (b i j : Nat) (u v : Value) : Out (fun q => q = b) W ((W.setCell ⟨b, i, none⟩ u).setCell ⟨b, j, none⟩ v) := (one_out W b i u).setCell (p := ⟨b, j, none⟩) (.inl rfl) v
/-- An array of the call's own behind writes elsewhere. -/
theorem Ar.Own.out {B : Ar} {w w' : World} {base : Nat} {F : Nat → Prop} (h : B.Own w base) (hI : B.Is w) (ho : Out F w w') (hF : ∀ j, base ≤ j → j < w.heap.size → ¬ F j) : B.Own w' base ∧ B.Is w' := by
  have o1 := ho.own h.shp (fun g hg => hF g (own_block h.shp hg).1 (own_block h.shp hg).2)
  have o2 := ho.own h.ats (fun g hg => hF g (own_block h.ats hg).1 (own_block h.ats hg).2)
  exact ⟨⟨o1, o2, h.two⟩, ⟨ls_of_own o1 hI.shp.big hI.shp.rng, ls_of_own o2 hI.ats.big hI.ats.rng⟩⟩
end Go.Proofs.Ytoippfoeghjdoaa

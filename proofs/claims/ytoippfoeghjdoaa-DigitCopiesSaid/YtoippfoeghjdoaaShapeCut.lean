/- Contracts of shape.Agree, shape.Split. -/
import Derived.Test.YtoippfoeghjdoaaShapeAt
namespace Go.Proofs.Ytoippfoeghjdoaa
open Go.RowKit Go.Lib
set_option linter.unusedVariables false
set_option linter.unusedSimpArgs false
attribute [local go_sem] alloc_drewN setCell_drewN

theorem Ls.take {w : World} {ao : Option Addr} {n c : Nat} {zs : List Int} (h : Ls w ao n c zs) {k : Nat} (hk : k ≤ n) : Ls w ao k c (zs.take k) := by
  have h1 := h.len; have h2 := h.cap; have h3 := h.big
  refine ⟨by simp; omega, by omega, by omega, h.top, fun h0 => ?_, fun i => ?_⟩
  · obtain ⟨b, off, e, hlt, hc⟩ := h.mem (by omega)
    exact ⟨b, off, e, hlt, fun i hi => by rw [hc i (by omega)]; simp [List.getD, hi]⟩
  · by_cases hi : i < k
    · have := h.rng i; simpa [List.getD, hi] using this
    · rw [show (zs.take k).getD i 0 = 0 by simp [List.getD, List.getElem?_take, hi]]; omega
theorem MadeL.ofC {w : World} {ao : Option Addr} {n : Nat} {zs : List Int} {e : Ending} {w' : World} (h : Cloned w 3 ao n zs e w') : MadeL w zs e w' := by
  obtain ⟨ao', c', h1, h2, h3, h4⟩ := h; exact ⟨_, _, _, h1, h2, h3, h4⟩
/-- What Agree tells. -/
def agL (s t : List Int) : List Int := if s.length < t.length then if t.take s.length = s then t else [] else if s.take t.length = t then s else []
def agE (s t : List Int) : Int := if s.length < t.length then if t.take s.length = s then 0 else 11 else if s.take t.length = t then 0 else 11
/-- Two rows of the call's own. -/
def MadeLL (w : World) (xs ys : List Int) (e : Ending) (w' : World) : Prop :=
  ∃ ao n c bo m d, e = .returned (.tuple #[.slice ao n c, .slice bo m d]) ∧ Ls w' ao n c xs ∧ Ls w' bo m d ys ∧ w'.ownsRow w.heap.size 3 1 (.slice ao n c) n (xs.map (Value.int .i64)) ∧ w'.ownsRow w.heap.size 3 1 (.slice bo m d) m (ys.map (Value.int .i64)) ∧
    (∀ g, (Value.slice ao n c).ownBlock = some g → (Value.slice bo m d).ownBlock ≠ some g) ∧ Below w.heap.size w w'
theorem mll {w w2 w3 : World} {ao1 ao2 : Option Addr} {n1 c1 n2 c2 : Nat} {xs ys xs' ys' : List Int} (hB1 : Below w.drew.heap.size w.drew w2) (hO1 : w2.ownsRow w.drew.heap.size 3 1 (.slice ao1 n1 c1) n1 (xs.map (Value.int .i64))) (hL1 : Ls w2 ao1 n1 c1 xs)
    (hB2 : Below w2.heap.size w2 w3) (hO2 : w3.ownsRow w2.heap.size 3 1 (.slice ao2 n2 c2) n2 (ys.map (Value.int .i64))) (hL2 : Ls w3 ao2 n2 c2 ys) (ex : xs' = xs) (ey : ys' = ys) :
    MadeLL w xs' ys' (.returned (.tuple #[.slice ao1 n1 c1, .slice ao2 n2 c2])) w3 := by
  subst ex ey
  have hs : w.heap.size ≤ w2.heap.size := hB1.size
  have hB1' : Below w.heap.size w w2 := (Below.refl _ _).drew.trans hB1
  refine ⟨_, _, _, _, _, _, rfl, hL1.below hB2 (Nat.le_refl _), hL2, own_below hO1 hB2 (Nat.le_refl _), own_mono hO2 hs, fun g h1 h2 => ?_, hB1'.trans (hB2.mono hs)⟩
  have q1 := own_block hO1 h1
  have q2 := own_block hO2 h2
  omega
/-- Where Split cuts. -/
def spN (k : Nat) (rank : Int) : Nat := if rank < 0 then if -(k : Int) ≤ rank then (-rank).toNat else k else k - rank.toNat
end Go.Proofs.Ytoippfoeghjdoaa

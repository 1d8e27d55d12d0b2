/- Contracts of shape.both and its closure, shape.Cover. -/
import Derived.Test.YtoippfoeghjdoaaShapeCut
namespace Go.Proofs.Ytoippfoeghjdoaa
open Go.RowKit Go.Lib
set_option linter.unusedVariables false
set_option linter.unusedSimpArgs false
attribute [local go_sem] alloc_drewN setCell_drewN

/-- A shape's length on the axis i of N, 1 where it has none. -/
def frL (s : List Int) (N i : Nat) : Int := if i < N - s.length then 1 else s.getD (i - (N - s.length)) 0
/-- The common shape of two. -/
def bthL (s t : List Int) : List Int := (List.range (max s.length t.length)).map fun i => max (frL s (max s.length t.length) i) (frL t (max s.length t.length) i)
theorem bthL_len (s t : List Int) : (bthL s t).length = max s.length t.length := by simp [bthL]
theorem set_take {L : List Int} {k N : Nat} (hN : N = L.length) (h : k < N) : (L.take k ++ List.replicate (N - k) (0 : Int)).set k (L.getD k 0) = L.take (k + 1) ++ List.replicate (N - (k + 1)) 0 := by
  subst hN
  have hl : (L.take k).length = k := by simp; omega
  rw [List.set_append_right _ _ (by omega), hl, Nat.sub_self]
  obtain ⟨q, hq⟩ : ∃ q, L.length - k = q + 1 := ⟨L.length - k - 1, by omega⟩
  rw [hq, show L.length - (k + 1) = q by omega, List.replicate_succ (n := q), List.set_cons_zero, take_snoc h, List.append_assoc]
  rfl
theorem frL_rng {s : List Int} (h : ∀ i, -9223372036854775808 ≤ s.getD i 0 ∧ s.getD i 0 ≤ 9223372036854775807) (N i : Nat) : -9223372036854775808 ≤ frL s N i ∧ frL s N i ≤ 9223372036854775807 := by
  unfold frL; split
  · omega
  · exact h _
theorem bthL_rng {s t : List Int} (hs : ∀ i, -9223372036854775808 ≤ s.getD i 0 ∧ s.getD i 0 ≤ 9223372036854775807) (ht : ∀ i, -9223372036854775808 ≤ t.getD i 0 ∧ t.getD i 0 ≤ 9223372036854775807) (i : Nat) :
    -9223372036854775808 ≤ (bthL s t).getD i 0 ∧ (bthL s t).getD i 0 ≤ 9223372036854775807 := by
  by_cases hi : i < max s.length t.length
  · have h1 := frL_rng hs (max s.length t.length) i
    have h2 := frL_rng ht (max s.length t.length) i
    have : (bthL s t).getD i 0 = max (frL s (max s.length t.length) i) (frL t (max s.length t.length) i) := by simp [bthL, List.getD, hi]
    rw [this]; omega
  · rw [show (bthL s t).getD i 0 = 0 by simp [bthL, List.getD, hi]]; omega
/-- A slice value reads as a list of lists. -/
structure Lss (w : World) (ao : Option Addr) (n c : Nat) (zss : List (List Int)) : Prop where
  len : zss.length = n
  cap : n ≤ c
  big : n * 8 ≤ 140737488351232
  top : c ≤ maxLen
  mem : 0 < n → ∃ b off, ao = some ⟨b, off, none⟩ ∧ b < w.heap.size ∧ ∀ i, i < n → ∃ ai ni ci, w.cell? ⟨b, off + i, none⟩ = some (.slice ai ni ci) ∧ Ls w ai ni ci (zss.getD i [])
theorem Lss.below {w w' : World} {ao : Option Addr} {n c : Nat} {zss : List (List Int)} (h : Lss w ao n c zss) {B : Nat} (hb : Below B w w') (hB : w.heap.size ≤ B) : Lss w' ao n c zss :=
  ⟨h.len, h.cap, h.big, h.top, fun h0 => by
    obtain ⟨b, off, e, hlt, hc⟩ := h.mem h0
    refine ⟨b, off, e, by have := hb.size; omega, fun i hi => ?_⟩
    obtain ⟨ai, ni, ci, h1, h2⟩ := hc i hi
    exact ⟨ai, ni, ci, (hb.cell (p := ⟨b, off + i, none⟩) (by show b < B; omega)).trans h1, h2.below hb hB⟩⟩
/-- What Cover tells. -/
def cvGo (c : List Int) : List (List Int) → List Int × Int
  | [] => (c, 0)
  | s :: r => if mayE s = 0 then if mayE (bthL c s) = 0 then cvGo (bthL c s) r else ([], 17) else ([], mayE s)
def cvR : List (List Int) → List Int × Int
  | [] => ([], 1)
  | s :: r => if mayE s = 0 then cvGo s r else ([], mayE s)
theorem cvGo_step {c : List Int} {zss : List (List Int)} {k : Nat} (h : k < zss.length) :
    cvGo c (zss.drop k) = if mayE (zss.getD k []) = 0 then if mayE (bthL c (zss.getD k [])) = 0 then cvGo (bthL c (zss.getD k [])) (zss.drop (k + 1)) else ([], 17) else ([], mayE (zss.getD k [])) := by
  rw [List.drop_eq_getElem_cons h]
  simp only [List.getD, List.getElem?_eq_getElem h, Option.getD_some]
  rfl
theorem cvR_step {zss : List (List Int)} (h : 0 < zss.length) : cvR zss = if mayE (zss.getD 0 []) = 0 then cvGo (zss.getD 0 []) (zss.drop 1) else ([], mayE (zss.getD 0 [])) := by
  cases zss with
  | nil => simp at h
  | cons s r => rfl
end Go.Proofs.Ytoippfoeghjdoaa

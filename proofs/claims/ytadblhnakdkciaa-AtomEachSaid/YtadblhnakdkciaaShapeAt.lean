/- Contracts of shape.indices, shape.At. -/
import Derived.Test.YtadblhnakdkciaaShapePlace
namespace Go.Proofs.Ytadblhnakdkciaa
open Go.RowKit Go.Lib
set_option linter.unusedVariables false
set_option linter.unusedSimpArgs false
attribute [local go_sem] alloc_drewN setCell_drewN

/-- The call hands back a row of its own that reads as zs. -/
def MadeL (w : World) (zs : List Int) (e : Ending) (w' : World) : Prop :=
  ∃ ao n c, e = .returned (.slice ao n c) ∧ Ls w' ao n c zs ∧ w'.ownsRow w.heap.size 3 1 (.slice ao n c) n (zs.map (Value.int .i64)) ∧ Below w.heap.size w w'
/-- The same, and an error number. -/
def MadeS (w : World) (zs : List Int) (err : Int) (e : Ending) (w' : World) : Prop :=
  ∃ ao n c, e = .returned (.tuple #[.slice ao n c, .int .i64 err]) ∧ Ls w' ao n c zs ∧ w'.ownsRow w.heap.size 3 1 (.slice ao n c) n (zs.map (Value.int .i64)) ∧ Below w.heap.size w w'
theorem MadeS.nil {w w' : World} (err : Int) (h : Below w.heap.size w w') : MadeS w [] err (.returned (.tuple #[.slice none 0 0, .int .i64 err])) w' :=
  ⟨none, 0, 0, rfl, Ls.zero _ _ (Nat.zero_le _), World.ownsRow_nil _ _ _ _, h⟩
/-- The indices of a place. -/
def ixL (s : List Int) (p : Int) : List Int := (List.range s.length).map fun i => (p / pr (s.drop (i + 1))) % s.getD i 0
theorem ixL_len (s : List Int) (p : Int) : (ixL s p).length = s.length := by simp [ixL]
theorem ixL_at {s : List Int} {p : Int} {k : Nat} (h : k < s.length) : (ixL s p).getD k 0 = (p / pr (s.drop (k + 1))) % s.getD k 0 := by
  simp [ixL, List.getD, h]
theorem pr_drop {s : List Int} {k : Nat} (h : k < s.length) : pr (s.drop k) = s.getD k 0 * pr (s.drop (k + 1)) := by
  rw [List.drop_eq_getElem_cons h, pr_cons]; simp [List.getD, List.getElem?_eq_getElem h]
theorem pos_all : ∀ {s : List Int}, (∀ i, 0 ≤ s.getD i 0) → 0 < pr s → ∀ i, i < s.length → 1 ≤ s.getD i 0
  | [], _, _, i, hi => absurd hi (by simp)
  | x :: xs, h0, hp, i, hi => by
    rw [pr_cons] at hp
    have hx : 0 ≤ x := by simpa using h0 0
    have hxs : ∀ i, 0 ≤ xs.getD i 0 := fun i => by have := h0 (i + 1); simpa [List.getD] using this
    have h1 : x ≠ 0 := by rintro rfl; simp at hp
    have h2 : 0 < pr xs := by
      have h3 := (pr_le xs hxs xs.length).1
      rw [List.take_length] at h3
      rcases Int.lt_or_eq_of_le h3 with h4 | h4
      · exact h4
      · rw [← h4] at hp; simp at hp
    cases i with
    | zero => simp; omega
    | succ i => have := pos_all hxs h2 i (by simpa using hi); simpa [List.getD] using this
theorem pr_drop_pos {s : List Int} (h : ∀ i, i < s.length → 1 ≤ s.getD i 0) (k : Nat) : 1 ≤ pr (s.drop k) := by
  rcases Nat.lt_or_ge k s.length with hk | hk
  · rw [pr_drop hk]
    have h1 := pr_drop_pos h (k + 1)
    have h2 := h k hk
    exact (le_mul1 h2 h1).1 |> fun h3 => by omega
  · rw [List.drop_of_length_le hk]; simp [pr]
termination_by s.length - k
theorem ixL_rng {s : List Int} {p : Int} (h : ∀ i, i < s.length → 1 ≤ s.getD i 0) (i : Nat) (hi : i < s.length) : 0 ≤ (ixL s p).getD i 0 ∧ (ixL s p).getD i 0 < s.getD i 0 := by
  rw [ixL_at hi]
  have := h i hi
  exact ⟨Int.emod_nonneg _ (by omega), Int.emod_lt_of_pos _ (by omega)⟩
theorem set_ix {L : List Int} {k : Nat} (h : k < L.length) : (List.replicate (k + 1) (0 : Int) ++ L.drop (k + 1)).set k (L.getD k 0) = List.replicate k 0 ++ L.drop k := by
  rw [List.set_append_left _ _ (by simp), List.drop_eq_getElem_cons h, List.replicate_succ' (n := k), List.set_append_right _ _ (by simp)]
  simp [List.getD, List.getElem?_eq_getElem h]
def atL (s : List Int) (p : Int) : List Int := if mayE s = 0 ∧ 0 ≤ p ∧ p < pr s then ixL s p else []
def atE (s : List Int) (p : Int) : Int := if mayE s = 0 then if 0 ≤ p ∧ p < pr s then 0 else 13 else mayE s
end Go.Proofs.Ytadblhnakdkciaa

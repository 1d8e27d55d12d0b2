/- AtomEach: the walk of the statement's function. -/
import Derived.Test.YtdedbfbkakofgaaAtomBegun
import Derived.Test.YtdedbfbkakofgaaAppend
import Derived.Deep.CutRange
import Derived.Deep.Cut
namespace Go.Proofs.Ytdedbfbkakofgaa
open Go.RowKit Go.Lib
set_option linter.unusedVariables false
set_option linter.unusedSimpArgs false
attribute [local go_sem] alloc_drewN setCell_drewN

/-- What the law gathers on its own, behind k rounds. -/
structure WantI (w0 wr : World) (b : Nat) (u : Value) (ao : Option Addr) (n c : Nat) (z : List Int) : Prop where
  box : BoxA wr b u (.slice ao n c)
  own : wr.ownsRow (b + 1) 2 1 (.slice ao n c) n (z.map (Value.int .i64))
  below : Below w0.heap.size w0 wr
  le : w0.heap.size ≤ b
theorem WantI.next {w0 wr wy : World} {b : Nat} {u : Value} {ao : Option Addr} {n c : Nat} {z : List Int} (h : WantI w0 wr b u ao n c z) (hb : Below wr.heap.size wr wy) : WantI w0 wy b u ao n c z :=
  ⟨h.box.via hb, own_below h.own hb (Nat.le_refl _), abvia h.below hb, h.le⟩
theorem WantI.new {w0 : World} (u : Value) (T : TypeId) : WantI w0 (w0.alloc (.cells #[u, .slice none 0 0] T)) w0.heap.size u none 0 0 [] :=
  ⟨BoxA.new _ _ _ _, World.ownsRow_nil _ _ _ _, abal _ _, Nat.le_refl _⟩
theorem WantI.grow {w0 wr wx wz : World} {b : Nat} {u : Value} {ao ao' : Option Addr} {n c n' c' : Nat} {z z' : List Int} (h : WantI w0 wr b u ao n c z) (hx : Below wr.heap.size wr wx) (hb : Below (b + 1) wx wz)
    (hO : wz.ownsRow (b + 1) 2 1 (.slice ao' n' c') n' (z'.map (Value.int .i64))) : WantI w0 (wz.setCell ⟨b, 1, none⟩ (.slice ao' n' c')) b u ao' n' c' z' := by
  have hx2 := (h.box.via hx).below hb (Nat.lt_succ_self b)
  obtain ⟨c0, c1, f0, f1, lt⟩ := hx2
  refine ⟨⟨?_, ?_, ?_, ?_, ?_⟩, ownsRow_setCell_below hO (by dsimp only; omega) _, ((abvia h.below hx).trans (hb.mono (by have := h.le; omega))).setCell h.le _, h.le⟩
  · simp [go_sem, *]
  · simp [go_sem, *]
  · simp [go_sem, *]
  · simp [go_sem, *]
  · simpa using lt
theorem WantI.arr {w0 wr : World} {b : Nat} {ua : Option Addr} {un uc : Nat} {ao : Option Addr} {n c : Nat} {s z : List Int} (h : WantI w0 wr b (.slice ua un uc) ao n c z) (hs : Ls wr ua un uc s) (hn : n ≤ 1000000) (hr : ∀ i, -9223372036854775808 ≤ z.getD i 0 ∧ z.getD i 0 ≤ 9223372036854775807) :
    Ar.Is ⟨ua, un, uc, ao, n, c, s, z⟩ wr := ⟨hs, ls_of_own h.own (by show n * 8 ≤ _; omega) hr⟩
theorem map_range_rng (f : Nat → Int) (k : Nat) (h : ∀ i, i < k → -9223372036854775808 ≤ f i ∧ f i ≤ 9223372036854775807) (i : Nat) : -9223372036854775808 ≤ ((List.range k).map f).getD i 0 ∧ ((List.range k).map f).getD i 0 ≤ 9223372036854775807 := by
  rcases Nat.lt_or_ge i k with hi | hi
  · rw [range_map_getD f hi]; exact h i hi
  · rw [List.getD_eq_getElem?_getD, List.getElem?_eq_none (by simpa using hi)]; simp
theorem range_map_snoc (f : Nat → Int) (k : Nat) : (List.range (k + 1)).map f = (List.range k).map f ++ [f k] := by rw [List.range_succ, List.map_append, List.map_singleton]
theorem ls_one (w : World) (T : TypeId) (z : Int) (hz : -9223372036854775808 ≤ z ∧ z ≤ 9223372036854775807) : Ls (w.alloc (.cells #[.int .i64 z] T)) (some ⟨w.heap.size, 0, none⟩) 1 1 [z] :=
  ls_alloc w [z] T (by simp) (rng_one hz)
theorem ag_self (s : List Int) : agL s s = s ∧ agE s s = 0 := by
  unfold agL agE
  rw [if_neg (Nat.lt_irrefl _), if_neg (Nat.lt_irrefl _), List.take_length, if_pos rfl, if_pos rfl]; exact ⟨rfl, rfl⟩
theorem dy_same {op : Int} {s a b : List Int} (h1 : amE s a = 0) (h2 : amE s b = 0) (hr : refV op 2 = 0) :
    adyE op s a s b = firE ((List.range b.length).map fun i => dyE op (a.getD i 0) (b.getD i 0)) ∧
    (adyE op s a s b = 0 → adyS op s a s b = s ∧ adyA op s a s b = (List.range b.length).map fun i => dyV op (a.getD i 0) (b.getD i 0)) := by
  have p1 := (am_pr h1).1
  have p2 := (am_pr h2).1
  obtain ⟨q1, q2⟩ := ag_self s
  have hn : adyN s s = b.length := by unfold adyN; rw [q1]; omega
  have ha : a.length = b.length := by omega
  have hi : ∀ i, i ∈ List.range b.length → i / (b.length / a.length) = i ∧ i / (b.length / b.length) = i := by
    intro i hi
    have hi' := List.mem_range.1 hi
    rw [ha, Nat.div_self (by omega), Nat.div_one]; exact ⟨rfl, rfl⟩
  constructor
  · unfold adyE
    rw [if_neg (by rw [h1, h2]; simp), if_neg (by rw [hr]; simp), if_neg (by rw [q2]; simp), hn]
    congr 1
    refine List.map_congr_left fun i h => ?_
    rw [dnE, (hi i h).1, (hi i h).2]
  · intro h
    refine ⟨by rw [adyS, if_pos h, q1], ?_⟩
    rw [adyA, if_pos h, hn]
    refine List.map_congr_left fun i h => ?_
    rw [dnV, (hi i h).1, (hi i h).2]

end Go.Proofs.Ytdedbfbkakofgaa

/- Contract of arr.Fill. -/
import Derived.Test.YtoippfoeghjdoaaArrMake
import Derived.Deep.CutRange
import Derived.Deep.Cut
namespace Go.Proofs.Ytoippfoeghjdoaa
open Go.RowKit Go.Lib
set_option linter.unusedVariables false
set_option linter.unusedSimpArgs false
attribute [local go_sem] alloc_drewN setCell_drewN

set_option maxRecDepth 100000 in
theorem mk_int (N : Nat) (hN : N ≤ 1000000) (w : World) : (Instr.makeSlice 25 (.int .i64 (N : Int)) (.int .i64 (N : Int))).run Try.prog w = .ok (.slice (some ⟨w.heap.size, 0, none⟩) N N) (w.alloc (.cells (Array.replicate N (.int .i64 0)) 3)) := by
  obtain ⟨i0, hi, hz0, hz1, hz2⟩ := info_parts (P := Try.prog) (e := 3) (z := .int .i64 0) (size := 1) (bytes := 8) (by kernel_rfl)
  have h := run_make (P := Try.prog) w 25 3 i0 (.int .i64 0) Try.underlying25 hi hz0 .i64 .i64 N N (by omega) (Int.le_refl _) (by rw [hz2]; omega) (by omega)
  rw [h]
  have e : madeCells (Value.int .i64 0).cells (((N : Int).toNat) * i0.size) = Array.replicate N (.int .i64 0) := by
    rw [hz1, Nat.mul_one, Int.toNat_natCast]
    exact Array.ext' (by rw [show (Value.int .i64 0).cells = #[.int .i64 0] by rfl, toList_madeCells_one]; simp)
  rw [e]
  simp
set_option maxRecDepth 100000 in
theorem mk_int64 (N : Nat) (hN : N ≤ 1000000) (w : World) : (Instr.makeSlice 28 (.int .i64 (N : Int)) (.int .i64 (N : Int))).run Try.prog w = .ok (.slice (some ⟨w.heap.size, 0, none⟩) N N) (w.alloc (.cells (Array.replicate N (.int .i64 0)) 2)) := by
  obtain ⟨i0, hi, hz0, hz1, hz2⟩ := info_parts (P := Try.prog) (e := 2) (z := .int .i64 0) (size := 1) (bytes := 8) (by kernel_rfl)
  have h := run_make (P := Try.prog) w 28 2 i0 (.int .i64 0) Try.underlying28 hi hz0 .i64 .i64 N N (by omega) (Int.le_refl _) (by rw [hz2]; omega) (by omega)
  rw [h]
  have e : madeCells (Value.int .i64 0).cells (((N : Int).toNat) * i0.size) = Array.replicate N (.int .i64 0) := by
    rw [hz1, Nat.mul_one, Int.toNat_natCast]
    exact Array.ext' (by rw [show (Value.int .i64 0).cells = #[.int .i64 0] by rfl, toList_madeCells_one]; simp)
  rw [e]
  simp
theorem own_zeros (w : World) (E : TypeId) (N base : Nat) (hN : N ≤ 1000000) (hb : base ≤ w.heap.size) :
    (w.alloc (.cells (Array.replicate N (.int .i64 0)) E)).ownsRow base E 1 (.slice (some ⟨w.heap.size, 0, none⟩) N N) N ((List.replicate N (0 : Int)).map (Value.int .i64)) := by
  have h := World.ownsRow_lit (base := base) (e := E) (size := 1) w (Array.replicate N (Value.int .i64 0)) N hb (by unfold maxLen; omega) (by simp)
  simpa using h
/-- What lies behind the making of an array out of a copied shape and a row of zeros. -/
structure FillMid (w' wx : World) (b8 n : Nat) (ao1 : Option Addr) (c1 N g : Nat) (s : List Int) (z : List Int) : Prop where
  box : BoxA wx b8 (.slice ao1 n c1) (.slice (some ⟨g, 0, none⟩) N N)
  le : w'.heap.size ≤ b8
  L1 : Ls wx ao1 n c1 s
  O1 : wx.ownsRow w'.heap.size 3 1 (.slice ao1 n c1) n (s.map (Value.int .i64))
  O2 : wx.ownsRow w'.heap.size 2 1 (.slice (some ⟨g, 0, none⟩) N N) N (z.map (Value.int .i64))
  ne : (Value.slice ao1 n c1).ownBlock ≠ some g
  n1 : (Value.slice ao1 n c1).ownBlock ≠ some b8
  n2 : g ≠ b8
  below : Below w'.heap.size w' wx
theorem BoxA.set {W : World} {b : Nat} {u v : Value} (h : BoxA W b u v) (u' v' : Value) : BoxA ((W.setCell ⟨b, 0, none⟩ u').setCell ⟨b, 1, none⟩ v') b u' v' := by
  obtain ⟨c0, c1, f0, f1, lt⟩ := h
  exact ⟨by simp [go_sem, *], by simp [go_sem, *], by simp [go_sem, *], by simp [go_sem, *], by simpa using lt⟩
theorem BoxA.new (W : World) (T : TypeId) (u v : Value) : BoxA (W.alloc (.cells #[u, v] T)) W.heap.size u v :=
  ⟨by simp [go_sem], by simp [go_sem], by simp [go_sem], by simp [go_sem], by simp⟩
theorem ls_set {w : World} {ao : Option Addr} {n c : Nat} {s : List Int} {base b : Nat} {E : TypeId} (h : Ls w ao n c s) (hO : w.ownsRow base E 1 (.slice ao n c) n (s.map (Value.int .i64))) (hb : b < base) (u v : Value) :
    Ls ((w.setCell ⟨b, 0, none⟩ u).setCell ⟨b, 1, none⟩ v) ao n c s :=
  ls_of_own (ownsRow_setCell_below (ownsRow_setCell_below hO (by exact hb) _) (by exact hb) _) h.big h.rng
section
variable {w' w2 : World} {n c1 N : Nat} {ao1 : Option Addr} {s : List Int}
theorem fm_135 (hN : N ≤ 1000000) (hL : Ls w2 ao1 n c1 s) (hO : w2.ownsRow w'.drew.heap.size 3 1 (.slice ao1 n c1) n (s.map (Value.int .i64))) (hB : Below w'.drew.heap.size w'.drew w2) :
    FillMid w' ((w2.alloc (.cells (Array.replicate N (.int .i64 0)) 2)).alloc (.cells #[.slice ao1 n c1, .slice (some ⟨w2.heap.size, 0, none⟩) N N] 38)) (w2.heap.size + 1) n ao1 c1 N (w2.heap.size) s (List.replicate N 0) := by
  have hs := hB.size
  rw [show w'.drew.heap.size = w'.heap.size from rfl] at hs hO
  have hB' : Below w'.heap.size w' w2 := (Below.refl _ _).drew.trans hB
  refine ⟨by simpa using BoxA.new (w2.alloc (.cells (Array.replicate N (.int .i64 0)) 2)) _ _ _, by omega, ?_, (hO.alloc _).alloc _, (own_zeros w2 _ N _ hN hs).alloc _, ?_, ?_, ?_, (hB'.alloc hs _).alloc (by simp; omega) _⟩
  · exact (hL.below ((Below.refl _ _).alloc (Nat.le_refl _) _) (Nat.le_refl _)).below ((Below.refl _ _).alloc (Nat.le_refl _) _) (Nat.le_refl _)
  · intro h1; have := own_block hO h1; omega
  · intro h1; have := own_block hO h1; omega
  · omega
theorem fm_153 (hN : N ≤ 1000000) (hL : Ls w2 ao1 n c1 s) (hO : w2.ownsRow w'.drew.heap.size 3 1 (.slice ao1 n c1) n (s.map (Value.int .i64))) (hB : Below w'.drew.heap.size w'.drew w2) :
    FillMid w' ((w2.alloc (.cells #[.slice ao1 n c1, .slice (some ⟨w2.heap.size + 1, 0, none⟩) N N] 38)).alloc (.cells (Array.replicate N (.int .i64 0)) 2)) w2.heap.size n ao1 c1 N (w2.heap.size + 1) s (List.replicate N 0) := by
  have hs := hB.size
  rw [show w'.drew.heap.size = w'.heap.size from rfl] at hs hO
  have hB' : Below w'.heap.size w' w2 := (Below.refl _ _).drew.trans hB
  have hz := own_zeros (w2.alloc (.cells #[.slice ao1 n c1, .slice (some ⟨w2.heap.size + 1, 0, none⟩) N N] 38)) 2 N w'.heap.size hN (by simp; omega)
  refine ⟨(BoxA.new w2 _ _ _).below ((Below.refl _ _).alloc (Nat.le_refl _) _) (by simp), hs, ?_, (hO.alloc _).alloc _, by simpa using hz, ?_, ?_, ?_, (hB'.alloc hs _).alloc (by simp; omega) _⟩
  · exact (hL.below ((Below.refl _ _).alloc (Nat.le_refl _) _) (Nat.le_refl _)).below ((Below.refl _ _).alloc (Nat.le_refl _) _) (Nat.le_refl _)
  · intro h1; have := own_block hO h1; omega
  · intro h1; have := own_block hO h1; omega
  · omega
theorem fm_315 (hN : N ≤ 1000000) (hL : Ls w2 ao1 n c1 s) (hO : w2.ownsRow (w'.alloc (.cells (Array.replicate N (.int .i64 0)) 2)).drew.heap.size 3 1 (.slice ao1 n c1) n (s.map (Value.int .i64))) (hB : Below (w'.alloc (.cells (Array.replicate N (.int .i64 0)) 2)).drew.heap.size (w'.alloc (.cells (Array.replicate N (.int .i64 0)) 2)).drew w2) :
    FillMid w' (w2.alloc (.cells #[.slice ao1 n c1, .slice (some ⟨w'.heap.size, 0, none⟩) N N] 38)) w2.heap.size n ao1 c1 N (w'.heap.size) s (List.replicate N 0) := by
  have hs := hB.size
  rw [show (w'.alloc (.cells (Array.replicate N (.int .i64 0)) 2)).drew.heap.size = w'.heap.size + 1 by simp] at hs hO
  have hB' : Below w'.heap.size w' w2 := ((Below.refl _ _).alloc (Nat.le_refl _) _).drew.trans (hB.mono (by simp))
  have hz := own_below (w := (w'.alloc (.cells (Array.replicate N (.int .i64 0)) 2)).drew) (own_zeros w' 2 N w'.heap.size hN (Nat.le_refl _)).drew hB (Nat.le_refl _)
  refine ⟨BoxA.new w2 _ _ _, by omega, hL.below ((Below.refl _ _).alloc (Nat.le_refl _) _) (Nat.le_refl _), own_mono (hO.alloc _) (by omega), hz.alloc _, ?_, ?_, ?_, hB'.alloc (by omega) _⟩
  · intro h1; have := own_block hO h1; omega
  · intro h1; have := own_block hO h1; omega
  · omega
theorem fm_351 (hN : N ≤ 1000000) (hL : Ls w2 ao1 n c1 s) (hO : w2.ownsRow ((w'.alloc (.cells (Array.replicate N (.int .i64 0)) 2)).alloc (.cells #[.slice none 0 0, .slice none 0 0] 38)).drew.heap.size 3 1 (.slice ao1 n c1) n (s.map (Value.int .i64))) (hB : Below ((w'.alloc (.cells (Array.replicate N (.int .i64 0)) 2)).alloc (.cells #[.slice none 0 0, .slice none 0 0] 38)).drew.heap.size ((w'.alloc (.cells (Array.replicate N (.int .i64 0)) 2)).alloc (.cells #[.slice none 0 0, .slice none 0 0] 38)).drew w2)
    (hX : BoxA w2 (w'.heap.size + 1) (.slice none 0 0) (.slice none 0 0)) :
    FillMid w' ((w2.setCell ⟨w'.heap.size + 1, 0, none⟩ (.slice ao1 n c1)).setCell ⟨w'.heap.size + 1, 1, none⟩ (.slice (some ⟨w'.heap.size, 0, none⟩) N N)) (w'.heap.size + 1) n ao1 c1 N (w'.heap.size) s (List.replicate N 0) := by
  have hs := hB.size
  rw [show ((w'.alloc (.cells (Array.replicate N (.int .i64 0)) 2)).alloc (.cells #[.slice none 0 0, .slice none 0 0] 38)).drew.heap.size = w'.heap.size + 2 by simp] at hs hO
  have hB' : Below w'.heap.size w' w2 := (((Below.refl _ _).alloc (Nat.le_refl _) _).alloc (by simp) _).drew.trans (hB.mono (by simp; omega))
  have hz := own_below (w := ((w'.alloc (.cells (Array.replicate N (.int .i64 0)) 2)).alloc (.cells #[.slice none 0 0, .slice none 0 0] 38)).drew) ((own_zeros w' 2 N w'.heap.size hN (Nat.le_refl _)).alloc (.cells #[.slice none 0 0, .slice none 0 0] 38)).drew hB (Nat.le_refl _)
  refine ⟨hX.set _ _, by omega, ls_set hL hO (by omega) _ _, own_mono (ownsRow_setCell_below (ownsRow_setCell_below hO (by dsimp only; omega) _) (by dsimp only; omega) _) (by omega), ?_, ?_, ?_, ?_, (hB'.setCell (by dsimp only; omega) _).setCell (by dsimp only; omega) _⟩
  · exact ownsRow_setCell_other (ownsRow_setCell_other hz (by simp [Value.ownBlock]) _) (by simp [Value.ownBlock]) _
  · intro h1; have := own_block hO h1; omega
  · intro h1; have := own_block hO h1; omega
  · omega
theorem fm_513 (hN : N ≤ 1000000) (hL : Ls w2 ao1 n c1 s) (hO : w2.ownsRow (w'.alloc (.cells #[.slice none 0 0, .slice none 0 0] 38)).drew.heap.size 3 1 (.slice ao1 n c1) n (s.map (Value.int .i64))) (hB : Below (w'.alloc (.cells #[.slice none 0 0, .slice none 0 0] 38)).drew.heap.size (w'.alloc (.cells #[.slice none 0 0, .slice none 0 0] 38)).drew w2)
    (hX : BoxA w2 w'.heap.size (.slice none 0 0) (.slice none 0 0)) :
    FillMid w' (((w2.setCell ⟨w'.heap.size, 0, none⟩ (.slice ao1 n c1)).setCell ⟨w'.heap.size, 1, none⟩ (.slice (some ⟨w2.heap.size, 0, none⟩) N N)).alloc (.cells (Array.replicate N (.int .i64 0)) 2)) w'.heap.size n ao1 c1 N (w2.heap.size) s (List.replicate N 0) := by
  have hs := hB.size
  rw [show (w'.alloc (.cells #[.slice none 0 0, .slice none 0 0] 38)).drew.heap.size = w'.heap.size + 1 by simp] at hs hO
  have hB' : Below w'.heap.size w' w2 := ((Below.refl _ _).alloc (Nat.le_refl _) _).drew.trans (hB.mono (by simp))
  have hB2 : Below w'.heap.size w' ((w2.setCell ⟨w'.heap.size, 0, none⟩ (.slice ao1 n c1)).setCell ⟨w'.heap.size, 1, none⟩ (.slice (some ⟨w2.heap.size, 0, none⟩) N N)) := (hB'.setCell (by dsimp only; omega) _).setCell (by dsimp only; omega) _
  have hz := own_zeros ((w2.setCell ⟨w'.heap.size, 0, none⟩ (.slice ao1 n c1)).setCell ⟨w'.heap.size, 1, none⟩ (.slice (some ⟨w2.heap.size, 0, none⟩) N N)) 2 N w'.heap.size hN hB2.size
  refine ⟨(hX.set _ _).below ((Below.refl _ _).alloc (Nat.le_refl _) _) (by simpa using hX.lt), Nat.le_refl _, (ls_set hL hO (by omega) _ _).below ((Below.refl _ _).alloc (Nat.le_refl _) _) (Nat.le_refl _), (own_mono (ownsRow_setCell_below (ownsRow_setCell_below hO (by dsimp only; omega) _) (by dsimp only; omega) _) (by omega)).alloc _, by simpa using hz, ?_, ?_, ?_, hB2.alloc hB2.size _⟩
  · intro h1; have := own_block hO h1; omega
  · intro h1; have := own_block hO h1; omega
  · have := hX.lt; omega
theorem fm_531 (hN : N ≤ 1000000) (hL : Ls w2 ao1 n c1 s) (hO : w2.ownsRow ((w'.alloc (.cells #[.slice none 0 0, .slice none 0 0] 38)).alloc (.cells (Array.replicate N (.int .i64 0)) 2)).drew.heap.size 3 1 (.slice ao1 n c1) n (s.map (Value.int .i64))) (hB : Below ((w'.alloc (.cells #[.slice none 0 0, .slice none 0 0] 38)).alloc (.cells (Array.replicate N (.int .i64 0)) 2)).drew.heap.size ((w'.alloc (.cells #[.slice none 0 0, .slice none 0 0] 38)).alloc (.cells (Array.replicate N (.int .i64 0)) 2)).drew w2)
    (hX : BoxA w2 w'.heap.size (.slice none 0 0) (.slice none 0 0)) :
    FillMid w' ((w2.setCell ⟨w'.heap.size, 0, none⟩ (.slice ao1 n c1)).setCell ⟨w'.heap.size, 1, none⟩ (.slice (some ⟨w'.heap.size + 1, 0, none⟩) N N)) w'.heap.size n ao1 c1 N (w'.heap.size + 1) s (List.replicate N 0) := by
  have hs := hB.size
  rw [show ((w'.alloc (.cells #[.slice none 0 0, .slice none 0 0] 38)).alloc (.cells (Array.replicate N (.int .i64 0)) 2)).drew.heap.size = w'.heap.size + 2 by simp] at hs hO
  have hB' : Below w'.heap.size w' w2 := (((Below.refl _ _).alloc (Nat.le_refl _) _).alloc (by simp) _).drew.trans (hB.mono (by simp; omega))
  have hz0 := own_zeros (w'.alloc (.cells #[.slice none 0 0, .slice none 0 0] 38)) 2 N w'.heap.size hN (by simp)
  rw [show (w'.alloc (.cells #[.slice none 0 0, .slice none 0 0] 38)).heap.size = w'.heap.size + 1 by simp] at hz0
  have hz := own_below (w := ((w'.alloc (.cells #[.slice none 0 0, .slice none 0 0] 38)).alloc (.cells (Array.replicate N (.int .i64 0)) 2)).drew) hz0.drew hB (Nat.le_refl _)
  refine ⟨hX.set _ _, Nat.le_refl _, ls_set hL hO (by omega) _ _, own_mono (ownsRow_setCell_below (ownsRow_setCell_below hO (by dsimp only; omega) _) (by dsimp only; omega) _) (by omega), ?_, ?_, ?_, ?_, (hB'.setCell (by dsimp only; omega) _).setCell (by dsimp only; omega) _⟩
  · exact ownsRow_setCell_other (ownsRow_setCell_other hz (by simp [Value.ownBlock]) _) (by simp [Value.ownBlock]) _
  · intro h1; have := own_block hO h1; omega
  · intro h1; have := own_block hO h1; omega
  · omega
end
theorem FillMid.put {w' wx : World} {b8 n c1 N g k : Nat} {ao1 : Option Addr} {s z : List Int} (h : FillMid w' wx b8 n ao1 c1 N g s z) (x : Int) : FillMid w' (wx.setCell ⟨g, k, none⟩ (.int .i64 x)) b8 n ao1 c1 N g s (z.set k x) := by
  have O1' := ownsRow_setCell_other h.O1 (a := ⟨g, k, none⟩) h.ne (.int .i64 x)
  have hg := (own_block h.O2 (g := g) rfl).1
  refine ⟨⟨?_, ?_, ?_, ?_, ?_⟩, h.le, ls_of_own O1' h.L1.big h.L1.rng, O1', ?_, h.ne, h.n1, h.n2, h.below.setCell hg _⟩
  · rw [World.cell?_setCell_far _ _ _ _ (by exact h.n2)]; exact h.box.c0
  · rw [World.cell?_setCell_far _ _ _ _ (by exact h.n2)]; exact h.box.c1
  · rw [World.frozen?_setCell]; exact h.box.f0
  · rw [World.frozen?_setCell]; exact h.box.f1
  · simpa using h.box.lt
  · have h2 := (h.O2.stored k (.int .i64 x)).1
    rw [List.map_set]
    exact h2
theorem set_fill (x : Int) (k N : Nat) (h : k < N) : (List.replicate k x ++ List.replicate (N - k) (0 : Int)).set k x = List.replicate (k + 1) x ++ List.replicate (N - (k + 1)) 0 := by
  rw [List.set_append_right _ _ (by simp)]
  simp only [List.length_replicate, Nat.sub_self]
  obtain ⟨q, hq⟩ : ∃ q, N - k = q + 1 := ⟨N - k - 1, by omega⟩
  rw [hq, show N - (k + 1) = q by omega, List.replicate_succ (n := q), List.set_cons_zero, List.replicate_succ' (n := k), List.append_assoc]
  rfl
end Go.Proofs.Ytoippfoeghjdoaa

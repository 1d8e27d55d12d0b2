/- Contract of arr.Fill. Small laws on worlds that lie below one another. Worlds that differ in some blocks alone; rows of the call's own that are shortened, lengthened to their capacity, and written over. The memory in which a short array is handed in (abacuslaw3.Hand): Lay and Kept. -/
import Derived.Test.YtdedbfbkakofgaaShapeFreshM4
import Derived.Deep.CutRange
import Derived.Deep.Cut
import Derived.Test.YtdedbfbkakofgaaShapeFreshM3
import Derived.Test.YtdedbfbkakofgaaShapeFreshM5
import Derived.Deep.RegionHeld3
namespace Go.Proofs.Ytdedbfbkakofgaa
open Go.RowKit Go.Lib
set_option linter.unusedVariables false
set_option linter.unusedSimpArgs false
attribute [local go_sem] alloc_drewN setCell_drewN

set_option maxRecDepth 100000 in
theorem mk_int (N : Nat) (hN : N ≤ 1000000) (w : World) : (Instr.makeSlice 25 (.int .i64 (N : Int)) (.int .i64 (N : Int))).run Try.prog w = .ok (.slice (some ⟨w.heap.size, 0, none⟩) N N) (w.alloc (.cells (Array.replicate N (.int .i64 0)) 3)) := by
  obtain ⟨i0, hi, hz0, hz1, hz2⟩ := info_parts (P := Try.prog) (e := 3) (z := .int .i64 0) (size := 1) (bytes := 8) (by kernel_rfl)
  have h := run_make (P := Try.prog) w 25 3 i0 (.int .i64 0) Try.underlying25 hi hz0 .i64 .i64 N N (by omega) (Int.le_refl _) (by rw [hz2]; omega) (by omega)
  rw [h]
  have e : madeCells (Value.int .i64 0).cells (((N : Int).toNat) * i0.size) = Array.replicate N (.int .i64 0) := by
    rw [hz1, Nat.mul_one, Int.toNat_natCast]
    exact Array.ext' (by rw [show (Value.int .i64 0).cells = #[.int .i64 0] by rfl, toList_madeCells_one]; simp)
  rw [e]
  simp
set_option maxRecDepth 100000 in
theorem mk_int64 (N : Nat) (hN : N ≤ 1000000) (w : World) : (Instr.makeSlice 50 (.int .i64 (N : Int)) (.int .i64 (N : Int))).run Try.prog w = .ok (.slice (some ⟨w.heap.size, 0, none⟩) N N) (w.alloc (.cells (Array.replicate N (.int .i64 0)) 2)) := by
  obtain ⟨i0, hi, hz0, hz1, hz2⟩ := info_parts (P := Try.prog) (e := 2) (z := .int .i64 0) (size := 1) (bytes := 8) (by kernel_rfl)
  have h := run_make (P := Try.prog) w 50 2 i0 (.int .i64 0) Try.underlying50 hi hz0 .i64 .i64 N N (by omega) (Int.le_refl _) (by rw [hz2]; omega) (by omega)
  rw [h]
  have e : madeCells (Value.int .i64 0).cells (((N : Int).toNat) * i0.size) = Array.replicate N (.int .i64 0) := by
    rw [hz1, Nat.mul_one, Int.toNat_natCast]
    exact Array.ext' (by rw [show (Value.int .i64 0).cells = #[.int .i64 0] by rfl, toList_madeCells_one]; simp)
  rw [e]
  simp
theorem own_zeros (w : World) (E : TypeId) (N base : Nat) (hN : N ≤ 1000000) (hb : base ≤ w.heap.size) :
    (w.alloc (.cells (Array.replicate N (.int .i64 0)) E)).ownsRow base E 1 (.slice (some ⟨w.heap.size, 0, none⟩) N N) N ((List.replicate N (0 : Int)).map (Value.int .i64)) := by
  have h := World.ownsRow_lit (base := base) (e := E) (size := 1) w (Array.replicate N (Value.int .i64 0)) N hb (by unfold maxLen; omega) (by simp)
  simpa using h
set_option maxHeartbeats 400000 in
theorem fill_bad {w : World} {ao : Option Addr} {n c : Nat} {s : List Int} (h : Ls w ao n c s) (x : Int) (hm : mayE s ≠ 0) :
    Calls Try.prog 69 #[.slice ao n c, .int .i64 x] w (MadeE w [] [] (mayE s)) := by
  have hb : ∀ o, Below w.heap.size w (w.alloc o) := fun o => (Below.refl _ _).alloc (Nat.le_refl _) _
  have C := Lib.hid (fun o => size_any (h.below (hb o) (Nat.le_refl _)))
  have hz : szE s = 0 := by simp [szE, hm]
  obtain ⟨e, HE⟩ : ∃ e, Hid (mayE s = e) := ⟨_, rfl⟩
  have he : (e != 0) = true := by rw [← HE.out]; simpa using hm
  rw [hz, HE.out] at C
  rw [HE.out]
  clear h hb hm hz
  go_enter Try.func69, Try.ntmps69
  go_wp2_with fail
  refine (C.out _).mono ?_; rintro e' w' ⟨rfl, rfl⟩
  go_wp2
  exact bodyPost_ret (v := .tuple #[.agg #[.slice none 0 0, .slice none 0 0], .int .i64 e]) (by simp [results, Try.results69, go_sem, *]) rfl ⟨⟨none, 0, 0, none, 0, 0, [], []⟩, rfl, Ar.is_nil _, rfl, rfl, Ar.own_nil _ _, (Below.refl _ _).alloc (Nat.le_refl _) _⟩
/-- What lies behind the making of an array out of a copied shape and a row of zeros. -/
structure FillMid (w' wx : World) (b8 n : Nat) (ao1 : Option Addr) (c1 N g : Nat) (s : List Int) (z : List Int) : Prop where
  box : BoxA wx b8 (.slice ao1 n c1) (.slice (some ⟨g, 0, none⟩) N N)
  le : w'.heap.size ≤ b8
  L1 : Ls wx ao1 n c1 s
  O1 : wx.ownsRow w'.heap.size 3 1 (.slice ao1 n c1) n (s.map (Value.int .i64))
  O2 : wx.ownsRow w'.heap.size 2 1 (.slice (some ⟨g, 0, none⟩) N N) N (z.map (Value.int .i64))
  ne : (Value.slice ao1 n c1).ownBlock ≠ some g
  n1 : (Value.slice ao1 n c1).ownBlock ≠ some b8
  n2 : g ≠ b8
  below : Below w'.heap.size w' wx
theorem BoxA.set {W : World} {b : Nat} {u v : Value} (h : BoxA W b u v) (u' v' : Value) : BoxA ((W.setCell ⟨b, 0, none⟩ u').setCell ⟨b, 1, none⟩ v') b u' v' := by
  obtain ⟨c0, c1, f0, f1, lt⟩ := h
  exact ⟨by simp [go_sem, *], by simp [go_sem, *], by simp [go_sem, *], by simp [go_sem, *], by simpa using lt⟩
theorem BoxA.new (W : World) (T : TypeId) (u v : Value) : BoxA (W.alloc (.cells #[u, v] T)) W.heap.size u v :=
  ⟨by simp [go_sem], by simp [go_sem], by simp [go_sem], by simp [go_sem], by simp⟩
theorem ls_set {w : World} {ao : Option Addr} {n c : Nat} {s : List Int} {base b : Nat} {E : TypeId} (h : Ls w ao n c s) (hO : w.ownsRow base E 1 (.slice ao n c) n (s.map (Value.int .i64))) (hb : b < base) (u v : Value) :
    Ls ((w.setCell ⟨b, 0, none⟩ u).setCell ⟨b, 1, none⟩ v) ao n c s :=
  ls_of_own (ownsRow_setCell_below (ownsRow_setCell_below hO (by exact hb) _) (by exact hb) _) h.big h.rng
section
variable {w' w2 : World} {n c1 N : Nat} {ao1 : Option Addr} {s : List Int}
theorem fm_135 (hN : N ≤ 1000000) (hL : Ls w2 ao1 n c1 s) (hO : w2.ownsRow w'.drew.heap.size 3 1 (.slice ao1 n c1) n (s.map (Value.int .i64))) (hB : Below w'.drew.heap.size w'.drew w2) :
    FillMid w' ((w2.alloc (.cells (Array.replicate N (.int .i64 0)) 2)).alloc (.cells #[.slice ao1 n c1, .slice (some ⟨w2.heap.size, 0, none⟩) N N] 55)) (w2.heap.size + 1) n ao1 c1 N (w2.heap.size) s (List.replicate N 0) := by
  have hs := hB.size
  rw [show w'.drew.heap.size = w'.heap.size from rfl] at hs hO
  have hB' : Below w'.heap.size w' w2 := (Below.refl _ _).drew.trans hB
  refine ⟨by simpa using BoxA.new (w2.alloc (.cells (Array.replicate N (.int .i64 0)) 2)) _ _ _, by omega, ?_, (hO.alloc _).alloc _, (own_zeros w2 _ N _ hN hs).alloc _, ?_, ?_, ?_, (hB'.alloc hs _).alloc (by simp; omega) _⟩
  · exact (hL.below ((Below.refl _ _).alloc (Nat.le_refl _) _) (Nat.le_refl _)).below ((Below.refl _ _).alloc (Nat.le_refl _) _) (Nat.le_refl _)
  · intro h1; have := own_block hO h1; omega
  · intro h1; have := own_block hO h1; omega
  · omega
theorem fm_153 (hN : N ≤ 1000000) (hL : Ls w2 ao1 n c1 s) (hO : w2.ownsRow w'.drew.heap.size 3 1 (.slice ao1 n c1) n (s.map (Value.int .i64))) (hB : Below w'.drew.heap.size w'.drew w2) :
    FillMid w' ((w2.alloc (.cells #[.slice ao1 n c1, .slice (some ⟨w2.heap.size + 1, 0, none⟩) N N] 55)).alloc (.cells (Array.replicate N (.int .i64 0)) 2)) w2.heap.size n ao1 c1 N (w2.heap.size + 1) s (List.replicate N 0) := by
  have hs := hB.size
  rw [show w'.drew.heap.size = w'.heap.size from rfl] at hs hO
  have hB' : Below w'.heap.size w' w2 := (Below.refl _ _).drew.trans hB
  have hz := own_zeros (w2.alloc (.cells #[.slice ao1 n c1, .slice (some ⟨w2.heap.size + 1, 0, none⟩) N N] 55)) 2 N w'.heap.size hN (by simp; omega)
  refine ⟨(BoxA.new w2 _ _ _).below ((Below.refl _ _).alloc (Nat.le_refl _) _) (by simp), hs, ?_, (hO.alloc _).alloc _, by simpa using hz, ?_, ?_, ?_, (hB'.alloc hs _).alloc (by simp; omega) _⟩
  · exact (hL.below ((Below.refl _ _).alloc (Nat.le_refl _) _) (Nat.le_refl _)).below ((Below.refl _ _).alloc (Nat.le_refl _) _) (Nat.le_refl _)
  · intro h1; have := own_block hO h1; omega
  · intro h1; have := own_block hO h1; omega
  · omega
theorem fm_315 (hN : N ≤ 1000000) (hL : Ls w2 ao1 n c1 s) (hO : w2.ownsRow (w'.alloc (.cells (Array.replicate N (.int .i64 0)) 2)).drew.heap.size 3 1 (.slice ao1 n c1) n (s.map (Value.int .i64))) (hB : Below (w'.alloc (.cells (Array.replicate N (.int .i64 0)) 2)).drew.heap.size (w'.alloc (.cells (Array.replicate N (.int .i64 0)) 2)).drew w2) :
    FillMid w' (w2.alloc (.cells #[.slice ao1 n c1, .slice (some ⟨w'.heap.size, 0, none⟩) N N] 55)) w2.heap.size n ao1 c1 N (w'.heap.size) s (List.replicate N 0) := by
  have hs := hB.size
  rw [show (w'.alloc (.cells (Array.replicate N (.int .i64 0)) 2)).drew.heap.size = w'.heap.size + 1 by simp] at hs hO
  have hB' : Below w'.heap.size w' w2 := ((Below.refl _ _).alloc (Nat.le_refl _) _).drew.trans (hB.mono (by simp))
  have hz := own_below (w := (w'.alloc (.cells (Array.replicate N (.int .i64 0)) 2)).drew) (own_zeros w' 2 N w'.heap.size hN (Nat.le_refl _)).drew hB (Nat.le_refl _)
  refine ⟨BoxA.new w2 _ _ _, by omega, hL.below ((Below.refl _ _).alloc (Nat.le_refl _) _) (Nat.le_refl _), own_mono (hO.alloc _) (by omega), hz.alloc _, ?_, ?_, ?_, hB'.alloc (by omega) _⟩
  · intro h1; have := own_block hO h1; omega
  · intro h1; have := own_block hO h1; omega
  · omega
theorem fm_351 (hN : N ≤ 1000000) (hL : Ls w2 ao1 n c1 s) (hO : w2.ownsRow ((w'.alloc (.cells (Array.replicate N (.int .i64 0)) 2)).alloc (.cells #[.slice none 0 0, .slice none 0 0] 55)).drew.heap.size 3 1 (.slice ao1 n c1) n (s.map (Value.int .i64))) (hB : Below ((w'.alloc (.cells (Array.replicate N (.int .i64 0)) 2)).alloc (.cells #[.slice none 0 0, .slice none 0 0] 55)).drew.heap.size ((w'.alloc (.cells (Array.replicate N (.int .i64 0)) 2)).alloc (.cells #[.slice none 0 0, .slice none 0 0] 55)).drew w2)
    (hX : BoxA w2 (w'.heap.size + 1) (.slice none 0 0) (.slice none 0 0)) :
    FillMid w' ((w2.setCell ⟨w'.heap.size + 1, 0, none⟩ (.slice ao1 n c1)).setCell ⟨w'.heap.size + 1, 1, none⟩ (.slice (some ⟨w'.heap.size, 0, none⟩) N N)) (w'.heap.size + 1) n ao1 c1 N (w'.heap.size) s (List.replicate N 0) := by
  have hs := hB.size
  rw [show ((w'.alloc (.cells (Array.replicate N (.int .i64 0)) 2)).alloc (.cells #[.slice none 0 0, .slice none 0 0] 55)).drew.heap.size = w'.heap.size + 2 by simp] at hs hO
  have hB' : Below w'.heap.size w' w2 := (((Below.refl _ _).alloc (Nat.le_refl _) _).alloc (by simp) _).drew.trans (hB.mono (by simp; omega))
  have hz := own_below (w := ((w'.alloc (.cells (Array.replicate N (.int .i64 0)) 2)).alloc (.cells #[.slice none 0 0, .slice none 0 0] 55)).drew) ((own_zeros w' 2 N w'.heap.size hN (Nat.le_refl _)).alloc (.cells #[.slice none 0 0, .slice none 0 0] 55)).drew hB (Nat.le_refl _)
  refine ⟨hX.set _ _, by omega, ls_set hL hO (by omega) _ _, own_mono (ownsRow_setCell_below (ownsRow_setCell_below hO (by dsimp only; omega) _) (by dsimp only; omega) _) (by omega), ?_, ?_, ?_, ?_, (hB'.setCell (by dsimp only; omega) _).setCell (by dsimp only; omega) _⟩
  · exact ownsRow_setCell_other (ownsRow_setCell_other hz (by simp [Value.ownBlock]) _) (by simp [Value.ownBlock]) _
  · intro h1; have := own_block hO h1; omega
  · intro h1; have := own_block hO h1; omega
  · omega
theorem fm_513 (hN : N ≤ 1000000) (hL : Ls w2 ao1 n c1 s) (hO : w2.ownsRow (w'.alloc (.cells #[.slice none 0 0, .slice none 0 0] 55)).drew.heap.size 3 1 (.slice ao1 n c1) n (s.map (Value.int .i64))) (hB : Below (w'.alloc (.cells #[.slice none 0 0, .slice none 0 0] 55)).drew.heap.size (w'.alloc (.cells #[.slice none 0 0, .slice none 0 0] 55)).drew w2)
    (hX : BoxA w2 w'.heap.size (.slice none 0 0) (.slice none 0 0)) :
    FillMid w' (((w2.setCell ⟨w'.heap.size, 0, none⟩ (.slice ao1 n c1)).setCell ⟨w'.heap.size, 1, none⟩ (.slice (some ⟨w2.heap.size, 0, none⟩) N N)).alloc (.cells (Array.replicate N (.int .i64 0)) 2)) w'.heap.size n ao1 c1 N (w2.heap.size) s (List.replicate N 0) := by
  have hs := hB.size
  rw [show (w'.alloc (.cells #[.slice none 0 0, .slice none 0 0] 55)).drew.heap.size = w'.heap.size + 1 by simp] at hs hO
  have hB' : Below w'.heap.size w' w2 := ((Below.refl _ _).alloc (Nat.le_refl _) _).drew.trans (hB.mono (by simp))
  have hB2 : Below w'.heap.size w' ((w2.setCell ⟨w'.heap.size, 0, none⟩ (.slice ao1 n c1)).setCell ⟨w'.heap.size, 1, none⟩ (.slice (some ⟨w2.heap.size, 0, none⟩) N N)) := (hB'.setCell (by dsimp only; omega) _).setCell (by dsimp only; omega) _
  have hz := own_zeros ((w2.setCell ⟨w'.heap.size, 0, none⟩ (.slice ao1 n c1)).setCell ⟨w'.heap.size, 1, none⟩ (.slice (some ⟨w2.heap.size, 0, none⟩) N N)) 2 N w'.heap.size hN hB2.size
  refine ⟨(hX.set _ _).below ((Below.refl _ _).alloc (Nat.le_refl _) _) (by simpa using hX.lt), Nat.le_refl _, (ls_set hL hO (by omega) _ _).below ((Below.refl _ _).alloc (Nat.le_refl _) _) (Nat.le_refl _), (own_mono (ownsRow_setCell_below (ownsRow_setCell_below hO (by dsimp only; omega) _) (by dsimp only; omega) _) (by omega)).alloc _, by simpa using hz, ?_, ?_, ?_, hB2.alloc hB2.size _⟩
  · intro h1; have := own_block hO h1; omega
  · intro h1; have := own_block hO h1; omega
  · have := hX.lt; omega
theorem fm_531 (hN : N ≤ 1000000) (hL : Ls w2 ao1 n c1 s) (hO : w2.ownsRow ((w'.alloc (.cells #[.slice none 0 0, .slice none 0 0] 55)).alloc (.cells (Array.replicate N (.int .i64 0)) 2)).drew.heap.size 3 1 (.slice ao1 n c1) n (s.map (Value.int .i64))) (hB : Below ((w'.alloc (.cells #[.slice none 0 0, .slice none 0 0] 55)).alloc (.cells (Array.replicate N (.int .i64 0)) 2)).drew.heap.size ((w'.alloc (.cells #[.slice none 0 0, .slice none 0 0] 55)).alloc (.cells (Array.replicate N (.int .i64 0)) 2)).drew w2)
    (hX : BoxA w2 w'.heap.size (.slice none 0 0) (.slice none 0 0)) :
    FillMid w' ((w2.setCell ⟨w'.heap.size, 0, none⟩ (.slice ao1 n c1)).setCell ⟨w'.heap.size, 1, none⟩ (.slice (some ⟨w'.heap.size + 1, 0, none⟩) N N)) w'.heap.size n ao1 c1 N (w'.heap.size + 1) s (List.replicate N 0) := by
  have hs := hB.size
  rw [show ((w'.alloc (.cells #[.slice none 0 0, .slice none 0 0] 55)).alloc (.cells (Array.replicate N (.int .i64 0)) 2)).drew.heap.size = w'.heap.size + 2 by simp] at hs hO
  have hB' : Below w'.heap.size w' w2 := (((Below.refl _ _).alloc (Nat.le_refl _) _).alloc (by simp) _).drew.trans (hB.mono (by simp; omega))
  have hz0 := own_zeros (w'.alloc (.cells #[.slice none 0 0, .slice none 0 0] 55)) 2 N w'.heap.size hN (by simp)
  rw [show (w'.alloc (.cells #[.slice none 0 0, .slice none 0 0] 55)).heap.size = w'.heap.size + 1 by simp] at hz0
  have hz := own_below (w := ((w'.alloc (.cells #[.slice none 0 0, .slice none 0 0] 55)).alloc (.cells (Array.replicate N (.int .i64 0)) 2)).drew) hz0.drew hB (Nat.le_refl _)
  refine ⟨hX.set _ _, Nat.le_refl _, ls_set hL hO (by omega) _ _, own_mono (ownsRow_setCell_below (ownsRow_setCell_below hO (by dsimp only; omega) _) (by dsimp only; omega) _) (by omega), ?_, ?_, ?_, ?_, (hB'.setCell (by dsimp only; omega) _).setCell (by dsimp only; omega) _⟩
  · exact ownsRow_setCell_other (ownsRow_setCell_other hz (by simp [Value.ownBlock]) _) (by simp [Value.ownBlock]) _
  · intro h1; have := own_block hO h1; omega
  · intro h1; have := own_block hO h1; omega
  · omega
end
theorem FillMid.put {w' wx : World} {b8 n c1 N g k : Nat} {ao1 : Option Addr} {s z : List Int} (h : FillMid w' wx b8 n ao1 c1 N g s z) (x : Int) : FillMid w' (wx.setCell ⟨g, k, none⟩ (.int .i64 x)) b8 n ao1 c1 N g s (z.set k x) := by
  have O1' := ownsRow_setCell_other h.O1 (a := ⟨g, k, none⟩) h.ne (.int .i64 x)
  have hg := (own_block h.O2 (g := g) rfl).1
  refine ⟨⟨?_, ?_, ?_, ?_, ?_⟩, h.le, ls_of_own O1' h.L1.big h.L1.rng, O1', ?_, h.ne, h.n1, h.n2, h.below.setCell hg _⟩
  · rw [World.cell?_setCell_far _ _ _ _ (by exact h.n2)]; exact h.box.c0
  · rw [World.cell?_setCell_far _ _ _ _ (by exact h.n2)]; exact h.box.c1
  · rw [World.frozen?_setCell]; exact h.box.f0
  · rw [World.frozen?_setCell]; exact h.box.f1
  · simpa using h.box.lt
  · have h2 := (h.O2.stored k (.int .i64 x)).1
    rw [List.map_set]
    exact h2
theorem set_fill (x : Int) (k N : Nat) (h : k < N) : (List.replicate k x ++ List.replicate (N - k) (0 : Int)).set k x = List.replicate (k + 1) x ++ List.replicate (N - (k + 1)) 0 := by
  rw [List.set_append_right _ _ (by simp)]
  simp only [List.length_replicate, Nat.sub_self]
  obtain ⟨q, hq⟩ : ∃ q, N - k = q + 1 := ⟨N - k - 1, by omega⟩
  rw [hq, show N - (k + 1) = q by omega, List.replicate_succ (n := q), List.set_cons_zero, List.replicate_succ' (n := k), List.append_assoc]
  rfl
set_option maxRecDepth 100000 in
set_option maxHeartbeats 800000 in
theorem fill_ok {w : World} {ao : Option Addr} {n c : Nat} {s : List Int} (h : Ls w ao n c s) (x : Int) (hx : -9223372036854775808 ≤ x ∧ x ≤ 9223372036854775807) (hm : mayE s = 0) :
    Calls Try.prog 69 #[.slice ao n c, .int .i64 x] w (MadeE w s (List.replicate (pr s).toNat x) 0) := by
  obtain ⟨W, HWW⟩ : ∃ W, Hid (w.alloc (.cells #[.slice none 0 0, .slice none 0 0] 55) = W) := ⟨_, rfl⟩
  have hw : Below w.heap.size w W := by rw [← HWW.out]; exact (Below.refl _ _).alloc (Nat.le_refl _) _
  have B0 : BoxA W w.heap.size (.slice none 0 0) (.slice none 0 0) := by
    rw [← HWW.out]; exact ⟨by simp [go_sem], by simp [go_sem], by simp [go_sem], by simp [go_sem], by simp⟩
  have C := Lib.hid (size_any (h.below hw (Nat.le_refl _)))
  obtain ⟨N, hN⟩ : ∃ N : Nat, szE s = N := by have := szE_bd s; exact ⟨(szE s).toNat, by omega⟩
  have hN2 : (pr s).toNat = N := by have h := hN; unfold szE at h; rw [if_pos hm] at h; omega
  have hNb : N ≤ 4096 := by have := szE_bd s; omega
  rw [hN, hm] at C
  rw [hN2]
  have CA := Lib.hid (fun W1 (hB : Below W.heap.size W W1) => clone_any ((h.below hw (Nat.le_refl _)).below hB (Nat.le_refl _)))
  have HW := Lib.hid hw
  have HB0 := Lib.hid B0
  have HH := Lib.hid h
  have hmk := fun w => mk_int64 N (by omega) w
  clear h hw hm hN hN2 B0
  go_enter Try.func69, Try.ntmps69
  go_wp2_with fail
  rw [HWW.out]
  refine C.out.mono ?_; rintro e' w' ⟨rfl, rfl⟩
  go_wp2_with fail
  have CA0 := Lib.hid (CA.out (w'.drew) ((Below.refl _ _).drew))
  have CA1 := Lib.hid (CA.out ((w'.alloc (.cells (Array.replicate N (.int .i64 0)) 2)).drew) (((Below.refl _ _).alloc (Nat.le_refl _) _).drew))
  have CA2 := Lib.hid (CA.out ((w'.alloc (.cells #[.slice none 0 0, .slice none 0 0] 55)).drew) (((Below.refl _ _).alloc (Nat.le_refl _) _).drew))
  have CA3 := Lib.hid (CA.out (((w'.alloc (.cells (Array.replicate N (.int .i64 0)) 2)).alloc (.cells #[.slice none 0 0, .slice none 0 0] 55)).drew) ((((Below.refl _ _).alloc (Nat.le_refl _) _).alloc (by simp) _).drew))
  have CA4 := Lib.hid (CA.out (((w'.alloc (.cells #[.slice none 0 0, .slice none 0 0] 55)).alloc (.cells (Array.replicate N (.int .i64 0)) 2)).drew) ((((Below.refl _ _).alloc (Nat.le_refl _) _).alloc (by simp) _).drew))
  go_cut [8] from 19 (fun v8 wx => ∃ b8 ao1 c1 g, v8 = .pointer (some ⟨b8, 0, none⟩) ∧ Hid (FillMid w' wx b8 n ao1 c1 N g s (List.replicate N 0)))
  case first =>
    go_region_held3 (fun _ => True) (trivial)
      (first
      | (go_at_call 86; (with_reducible refine Calls.mono CA0.out ?_); rintro e w2 ⟨ao1, c1, rfl, hL1, hO1, hB1⟩; have HL1 := Lib.hid hL1; have HO1 := Lib.hid hO1; have HB1 := Lib.hid hB1)
      | (go_at_call 86; (with_reducible refine Calls.mono CA1.out ?_); rintro e w2 ⟨ao1, c1, rfl, hL1, hO1, hB1⟩; have HL1 := Lib.hid hL1; have HO1 := Lib.hid hO1; have HB1 := Lib.hid hB1)
      | (go_at_call 86; (with_reducible refine Calls.mono CA2.out ?_); rintro e w2 ⟨ao1, c1, rfl, hL1, hO1, hB1⟩; have HL1 := Lib.hid hL1; have HO1 := Lib.hid hO1; have HB1 := Lib.hid hB1; have hbx : BoxA w2 (w'.heap.size) (.slice none 0 0) (.slice none 0 0) := BoxA.below (W := (w'.alloc (.cells #[.slice none 0 0, .slice none 0 0] 55)).drew) ⟨by simp [go_sem], by simp [go_sem], by simp [go_sem], by simp [go_sem], by simp; try omega⟩ hB1 (by simp; try omega); have HBX := Lib.hid hbx; obtain ⟨k0, k1, k2, k3, k4⟩ := hbx)
      | (go_at_call 86; (with_reducible refine Calls.mono CA3.out ?_); rintro e w2 ⟨ao1, c1, rfl, hL1, hO1, hB1⟩; have HL1 := Lib.hid hL1; have HO1 := Lib.hid hO1; have HB1 := Lib.hid hB1; have hbx : BoxA w2 (w'.heap.size + 1) (.slice none 0 0) (.slice none 0 0) := BoxA.below (W := ((w'.alloc (.cells (Array.replicate N (.int .i64 0)) 2)).alloc (.cells #[.slice none 0 0, .slice none 0 0] 55)).drew) ⟨by simp [go_sem], by simp [go_sem], by simp [go_sem], by simp [go_sem], by simp; try omega⟩ hB1 (by simp; try omega); have HBX := Lib.hid hbx; obtain ⟨k0, k1, k2, k3, k4⟩ := hbx)
      | (go_at_call 86; (with_reducible refine Calls.mono CA4.out ?_); rintro e w2 ⟨ao1, c1, rfl, hL1, hO1, hB1⟩; have HL1 := Lib.hid hL1; have HO1 := Lib.hid hO1; have HB1 := Lib.hid hB1; have hbx : BoxA w2 (w'.heap.size) (.slice none 0 0) (.slice none 0 0) := BoxA.below (W := ((w'.alloc (.cells #[.slice none 0 0, .slice none 0 0] 55)).alloc (.cells (Array.replicate N (.int .i64 0)) 2)).drew) ⟨by simp [go_sem], by simp [go_sem], by simp [go_sem], by simp [go_sem], by simp; try omega⟩ hB1 (by simp; try omega); have HBX := Lib.hid hbx; obtain ⟨k0, k1, k2, k3, k4⟩ := hbx)
      )
    all_goals go_wp2_with fail
    all_goals go_meet
    all_goals first
      | exact ⟨_, _, _, _, rfl, fm_135 (by omega) HL1.out HO1.out HB1.out⟩
      | exact ⟨_, _, _, _, rfl, fm_153 (by omega) HL1.out HO1.out HB1.out⟩
      | exact ⟨_, _, _, _, rfl, fm_315 (by omega) HL1.out HO1.out HB1.out⟩
      | exact ⟨_, _, _, _, rfl, fm_351 (by omega) HL1.out HO1.out HB1.out HBX.out⟩
      | exact ⟨_, _, _, _, rfl, fm_513 (by omega) HL1.out HO1.out HB1.out HBX.out⟩
      | exact ⟨_, _, _, _, rfl, fm_531 (by omega) HL1.out HO1.out HB1.out HBX.out⟩
  case rest =>
    obtain ⟨b8, ao1, c1, g, rfl, HM⟩ := hcut
    clear CA0 CA1 CA2 CA3 CA4 hmk CA
    obtain ⟨k0, k1, k2, k3, k4⟩ := HM.out.box
    go_wp2_with fail
    go_loopw [27] (fun i wr => ∃ k : Nat, k ≤ N ∧ i = .int .i64 k ∧ Hid (FillMid w' wr b8 n ao1 c1 N g s (List.replicate k x ++ List.replicate (N - k) 0))) (fun i _ => N - (RowKit.intOf i).toNat)
    case atStart => exact ⟨0, Nat.zero_le _, rfl, by simpa using HM⟩
    case round =>
      obtain ⟨k, hk, rfl, HR⟩ := hrel
      clear k0 k1 k2 k3 k4
      obtain ⟨k0, k1, k2, k3, k4⟩ := HR.out.box
      by_cases hlt : k < N
      · have hlt' : (k : Int) < N := by omega
        have d1 : ∃ v, wr.cell? ⟨g, k, none⟩ = some v := by
          rw [HR.out.O2.cellAt k (by omega)]
          exact ⟨_, List.getElem?_eq_getElem (by simp; omega)⟩
        obtain ⟨v0, d1⟩ := d1
        have d2 := HR.out.O2.frozenAt k
        have HP := Lib.hid (HR.out.put (k := k) x)
        rw [set_fill x k N hlt] at HP
        go_wp2
        go_roundw
        case rel => exact ⟨k + 1, by omega, by go_num, HP⟩
        case measure => simp [RowKit.intOf]; omega
      · obtain rfl : k = N := by omega
        have hge : (k : Int) ≤ k := Int.le_refl _
        obtain ⟨j0, j1, j2, j3, j4⟩ := HB0.out.below HR.out.below HB0.out.lt
        have hE : MadeE w s (List.replicate k x) 0 (.returned (.tuple #[.agg #[.slice ao1 n c1, .slice (some ⟨g, 0, none⟩) k k], .int .i64 0])) ((wr.setCell ⟨w.heap.size, 0, none⟩ (.slice ao1 n c1)).setCell ⟨w.heap.size, 1, none⟩ (.slice (some ⟨g, 0, none⟩) k k)) := by
          have hR := HR.out
          have hs := HW.out.size
          have hl := HB0.out.lt
          rw [Nat.sub_self, List.replicate_zero, List.append_nil] at hR
          refine made_mk 0 (((HW.out.trans (hR.below.mono hs)).setCell (by simp) _).setCell (by simp) _) (own_mono (ownsRow_setCell_below (ownsRow_setCell_below hR.O1 (by dsimp only; omega) _) (by dsimp only; omega) _) hs) (own_mono (ownsRow_setCell_below (ownsRow_setCell_below hR.O2 (by dsimp only; omega) _) (by dsimp only; omega) _) hs) ?_ hR.L1.big (by omega) hR.L1.rng ?_
          · intro q h1 h2
            simp [Value.ownBlock] at h2
            subst h2
            exact hR.ne h1
          · intro i
            by_cases hi : i < k
            · simpa [List.getD, hi] using hx
            · simp [List.getD, hi]
        have HE := Lib.hid hE
        clear hE
        go_wp2
        exact bodyPost_ret (v := .tuple #[.agg #[.slice ao1 n c1, .slice (some ⟨g, 0, none⟩) k k], .int .i64 0]) (by simp [results, Try.results69, go_sem, *]) rfl HE.out
end Go.Proofs.Ytdedbfbkakofgaa

namespace Go.Proofs.Ytdedbfbkakofgaa
open Go.RowKit Go.Lib
set_option linter.unusedVariables false
set_option linter.unusedSimpArgs false
theorem abal (w : World) (o : Obj) : Below w.heap.size w (w.alloc o) := (Below.refl _ _).alloc (Nat.le_refl _) _
theorem abvia {w W1 W2 : World} (h : Below w.heap.size w W1) (h2 : Below W1.heap.size W1 W2) : Below w.heap.size w W2 := h.trans (h2.mono h.size)
theorem adrew (w : World) (n : Nat) : Below w.heap.size w (w.drewN n) := below_drewN (Below.refl _ _) n
theorem adrew1 (w : World) : Below w.heap.size w w.drew := (Below.refl _ _).drew
theorem BoxA.lt' {W W' : World} {b B : Nat} {u v : Value} (h : BoxA W b u v) (hb : Below B W W') : b < W'.heap.size := Nat.lt_of_lt_of_le h.lt hb.size
/-- A box of one value. -/
structure Box1 (W : World) (b : Nat) (u : Value) : Prop where
  c0 : W.cell? ⟨b, 0, none⟩ = some u
  f0 : W.frozen? ⟨b, 0, none⟩ = false
  lt : b < W.heap.size
theorem Box1.below {W W' : World} {b : Nat} {u : Value} (h : Box1 W b u) {B : Nat} (hb : Below B W W') (hB : b < B) : Box1 W' b u :=
  ⟨(hb.cell (p := ⟨b, 0, none⟩) hB).trans h.c0, (hb.frozen (p := ⟨b, 0, none⟩) hB).trans h.f0, Nat.lt_of_lt_of_le h.lt hb.size⟩
theorem Box1.via {W W' : World} {b : Nat} {u : Value} (h : Box1 W b u) (hb : Below W.heap.size W W') : Box1 W' b u := h.below hb h.lt
theorem BoxA.via {W W' : World} {b : Nat} {u v : Value} (h : BoxA W b u v) (hb : Below W.heap.size W W') : BoxA W' b u v := h.below hb h.lt
theorem Ar.Is.via {A : Ar} {w w' : World} (h : A.Is w) (hb : Below w.heap.size w w') : A.Is w' := h.below hb (Nat.le_refl _)
theorem Ls.via {w w' : World} {ao : Option Addr} {n c : Nat} {zs : List Int} (h : Ls w ao n c zs) (hb : Below w.heap.size w w') : Ls w' ao n c zs := h.below hb (Nat.le_refl _)
theorem Box1.new (W : World) (T : TypeId) (u : Value) : Box1 (W.alloc (.cells #[u] T)) W.heap.size u := ⟨by simp [go_sem], by simp [go_sem], by simp⟩
theorem FillMid.next {w' wx wy : World} {b8 n c1 N g : Nat} {ao1 : Option Addr} {s z : List Int} (h : FillMid w' wx b8 n ao1 c1 N g s z) (hb : Below wx.heap.size wx wy) : FillMid w' wy b8 n ao1 c1 N g s z :=
  ⟨h.box.via hb, h.le, h.L1.via hb, own_below h.O1 hb (Nat.le_refl _), own_below h.O2 hb (Nat.le_refl _), h.ne, h.n1, h.n2, abvia h.below hb⟩
/-- An empty answer. -/
theorem made_nil {w w' : World} (e : Int) (h : Below w.heap.size w w') : MadeE w [] [] e (.returned (.tuple #[.agg #[.slice none 0 0, .slice none 0 0], .int .i64 e])) w' :=
  ⟨⟨none, 0, 0, none, 0, 0, [], []⟩, rfl, Ar.is_nil _, rfl, rfl, Ar.own_nil _ _, h⟩
/-- The answer that was made out of a copied shape and a row. -/
theorem made_mid {w w' wr : World} {b8 n c1 N g b : Nat} {ao1 : Option Addr} {s z : List Int} (h : FillMid w' wr b8 n ao1 c1 N g s z) (hw : Below w.heap.size w w') (hb : b < w'.heap.size) (hb2 : w.heap.size ≤ b) (hN : N ≤ 1000000) (hr : ∀ i, -9223372036854775808 ≤ z.getD i 0 ∧ z.getD i 0 ≤ 9223372036854775807) (u v : Value) :
    MadeE w s z 0 (.returned (.tuple #[.agg #[.slice ao1 n c1, .slice (some ⟨g, 0, none⟩) N N], .int .i64 0])) ((wr.setCell ⟨b, 0, none⟩ u).setCell ⟨b, 1, none⟩ v) := by
  have hs := hw.size
  refine made_mk 0 (((hw.trans (h.below.mono hs)).setCell (by dsimp only; omega) _).setCell (by dsimp only; omega) _) (own_mono (ownsRow_setCell_below (ownsRow_setCell_below h.O1 (by dsimp only; omega) _) (by dsimp only; omega) _) hs) (own_mono (ownsRow_setCell_below (ownsRow_setCell_below h.O2 (by dsimp only; omega) _) (by dsimp only; omega) _) hs) ?_ h.L1.big (by omega) h.L1.rng hr
  intro q h1 h2
  simp [Value.ownBlock] at h2
  subst h2
  exact h.ne h1
end Go.Proofs.Ytdedbfbkakofgaa

namespace Go.Proofs.Ytdedbfbkakofgaa
open Go.RowKit Go.Lib
set_option linter.unusedVariables false
set_option linter.unusedSimpArgs false
/-- Of the blocks that were there those of F alone may hold something else. -/
structure Out (F : Nat → Prop) (w w' : World) : Prop where
  os : w'.os = w.os
  tape : w'.tape = w.tape
  output : w'.output = w.output
  size : w.heap.size ≤ w'.heap.size
  block : ∀ k, k < w.heap.size → ¬ F k → w'.heap[k]? = w.heap[k]?
theorem Out.refl (F : Nat → Prop) (w : World) : Out F w w := ⟨rfl, rfl, rfl, Nat.le_refl _, fun _ _ _ => rfl⟩
theorem Out.trans {F G : Nat → Prop} {a b c : World} (h : Out F a b) (k : Out G b c) (hG : ∀ i, i < a.heap.size → G i → F i) : Out F a c :=
  ⟨k.os.trans h.os, k.tape.trans h.tape, k.output.trans h.output, Nat.le_trans h.size k.size, fun i hi hn => (k.block i (Nat.lt_of_lt_of_le hi h.size) (fun g => hn (hG i hi g))).trans (h.block i hi hn)⟩
theorem Out.weak {F G : Nat → Prop} {a b : World} (h : Out F a b) (hG : ∀ i, i < a.heap.size → F i → G i) : Out G a b :=
  ⟨h.os, h.tape, h.output, h.size, fun i hi hn => h.block i hi (fun g => hn (hG i hi g))⟩
theorem Out.of {F : Nat → Prop} {w w' : World} (h : Below w.heap.size w w') : Out F w w' := ⟨h.os, h.tape, h.output, h.size, fun k hk _ => h.block k hk⟩
theorem Out.via {F : Nat → Prop} {w w1 w2 : World} (h : Out F w w1) (h2 : Below w1.heap.size w1 w2) : Out F w w2 := h.trans (G := fun _ => False) (.of h2) (fun _ _ h => h.elim)
theorem Out.toBelow {F : Nat → Prop} {w w' : World} (h : Out F w w') {B : Nat} (hF : ∀ k, F k → B ≤ k) (hB : B ≤ w.heap.size) : Below B w w' :=
  ⟨h.os, h.tape, h.output, h.size, fun k hk => h.block k (by omega) (fun f => by have := hF k f; omega)⟩
theorem Out.setCell {F : Nat → Prop} {a w : World} (h : Out F a w) {p : Addr} (hp : F p.block ∨ a.heap.size ≤ p.block) (u : Value) : Out F a (w.setCell p u) := by
  have k : Out (fun k => k = p.block) w (w.setCell p u) := ⟨rfl, rfl, rfl, by simp [World.setCell], fun k hk hn => Below.heap_setCell _ _ _ _ hn⟩
  refine h.trans k fun i hi e => ?_
  rcases hp with hp | hp
  · rw [show i = p.block from e]; exact hp
  · have : i = p.block := e
    omega
theorem Out.alloc {F : Nat → Prop} {a w : World} (h : Out F a w) (o : Obj) : Out F a (w.alloc o) := h.via (abal _ _)
theorem Out.grown {F : Nat → Prop} {a w w' : World} {row : Option Nat} (h : Out F a w) (hg : w.grownBy w' row) (hr : ∀ k, row = some k → F k ∨ a.heap.size ≤ k) : Out F a w' := by
  have k : Out (fun k => row = some k) w w' := ⟨hg.os, hg.tape, hg.output, hg.size, fun k hk hn => hg.block k hk (fun e => hn e.symm)⟩
  refine h.trans k fun i hi e => ?_
  rcases hr i e with hp | hp
  · exact hp
  · omega
theorem Out.cell {F : Nat → Prop} {w w' : World} (h : Out F w w') {p : Addr} (hp : p.block < w.heap.size) (hn : ¬ F p.block) : w'.cell? p = w.cell? p := World.cell?_of_block (w := w) (h.block p.block hp hn)
theorem Out.frozen {F : Nat → Prop} {w w' : World} (h : Out F w w') {p : Addr} (hp : p.block < w.heap.size) (hn : ¬ F p.block) : w'.frozen? p = w.frozen? p := World.frozen?_of_block (w := w) (h.block p.block hp hn)
theorem Out.own {F : Nat → Prop} {w w' : World} (h : Out F w w') {base : Nat} {E : TypeId} {v : Value} {n : Nat} {xs : List Value} (ho : w.ownsRow base E 1 v n xs) (hn : ∀ g, v.ownBlock = some g → ¬ F g) : w'.ownsRow base E 1 v n xs := by
  obtain ⟨h1, h2⟩ := ho
  refine ⟨h1, ?_⟩
  rcases h2 with h2 | ⟨g, cap, cur, hv, hg, hh, r⟩
  · exact .inl h2
  · refine .inr ⟨g, cap, cur, hv, hg, ?_, r⟩
    rw [h.block g (by have := (Array.getElem?_eq_some_iff.1 hh).1; omega) (hn g (by rw [hv]; rfl))]; exact hh
theorem Out.boxA {F : Nat → Prop} {w w' : World} (h : Out F w w') {b : Nat} {u v : Value} (hb : BoxA w b u v) (hn : ¬ F b) : BoxA w' b u v :=
  ⟨(h.cell (p := ⟨b, 0, none⟩) hb.lt hn).trans hb.c0, (h.cell (p := ⟨b, 1, none⟩) hb.lt hn).trans hb.c1, (h.frozen (p := ⟨b, 0, none⟩) hb.lt hn).trans hb.f0, (h.frozen (p := ⟨b, 1, none⟩) hb.lt hn).trans hb.f1, Nat.lt_of_lt_of_le hb.lt h.size⟩
/-- A row cut to none of its elements; lengthened to its capacity. -/
theorem own_shut {w : World} {base : Nat} {E : TypeId} {ao : Option Addr} {n c : Nat} {xs : List Value} (h : w.ownsRow base E 1 (.slice ao n c) n xs) : w.ownsRow base E 1 (.slice ao 0 c) 0 [] := by
  obtain ⟨h1, h2⟩ := h
  refine ⟨rfl, ?_⟩
  rcases h2 with ⟨h2, h3⟩ | ⟨g, cap, cur, hv, hg, hh, hc, hm, hs, ht⟩
  · left; cases h2; exact ⟨rfl, rfl⟩
  · right; cases hv; exact ⟨g, c, cur, rfl, hg, hh, by omega, hm, hs, by simp⟩
theorem own_full {w : World} {base : Nat} {E : TypeId} {ao : Option Addr} {n c : Nat} {xs : List Value} (h : w.ownsRow base E 1 (.slice ao n c) n xs) :
    n ≤ c ∧ c ≤ maxLen ∧ ∃ ys : List Value, ys.length = c - n ∧ w.ownsRow base E 1 (.slice ao c c) c (xs ++ ys) := by
  obtain ⟨h1, h2⟩ := h
  rcases h2 with ⟨h2, h3⟩ | ⟨g, cap, cur, hv, hg, hh, hc, hm, hs, ht⟩
  · cases h2
    have : xs = [] := List.eq_nil_of_length_eq_zero (by omega)
    subst this
    exact ⟨Nat.le_refl _, Nat.zero_le _, [], rfl, rfl, .inl ⟨rfl, rfl⟩⟩
  · cases hv
    rw [Nat.mul_one] at ht hs h1
    have hl : cur.toList.length = c := by simpa using hs
    have he : xs ++ cur.toList.drop n = cur.toList := by rw [← ht, List.take_append_drop]
    refine ⟨hc, hm, cur.toList.drop n, by simp; omega, by rw [he]; omega, .inr ⟨g, c, cur, rfl, hg, hh, Nat.le_refl _, hm, by omega, ?_⟩⟩
    rw [Nat.mul_one, he, List.take_of_length_le (by omega)]
/-- A whole row in one piece. -/
theorem own_some {w : World} {base : Nat} {E : TypeId} {ao : Option Addr} {n c : Nat} {xs : List Value} (h : w.ownsRow base E 1 (.slice ao n c) n xs) (h0 : 0 < c) : ∃ g, ao = some ⟨g, 0, none⟩ ∧ base ≤ g ∧ g < w.heap.size := by
  obtain ⟨h1, h2⟩ := h
  rcases h2 with ⟨h2, h3⟩ | ⟨g, cap, cur, hv, hg, hh, hc⟩
  · cases h2; omega
  · cases hv; exact ⟨g, rfl, hg, (Array.getElem?_eq_some_iff.1 hh).1⟩
theorem own_zero {w : World} {base : Nat} {E : TypeId} {ao : Option Addr} {n c : Nat} {xs : List Value} (h : w.ownsRow base E 1 (.slice ao n c) n xs) (h0 : ao = none) : n = 0 ∧ c = 0 := by
  obtain ⟨h1, h2⟩ := h
  rcases h2 with ⟨h2, h3⟩ | ⟨g, cap, cur, hv, hg, hh, hc⟩
  · cases h2; exact ⟨h3, rfl⟩
  · cases hv; cases h0
end Go.Proofs.Ytdedbfbkakofgaa

namespace Go.Proofs.Ytdedbfbkakofgaa
open Go.RowKit Go.Lib
set_option linter.unusedVariables false
set_option linter.unusedSimpArgs false
attribute [local go_sem] alloc_drewN setCell_drewN

structure Hd where
  (hb : Nat)
  (sa : Option Addr)
  (sn : Nat)
  (aa : Option Addr)
  (an : Nat)
  (S A : List Int)
/-- The blocks of the hand. -/
def Hd.foot (H : Hd) (k : Nat) : Prop := k = H.hb ∨ (Value.slice H.sa H.sn H.sn).ownBlock = some k ∨ (Value.slice H.aa H.an H.an).ownBlock = some k
structure Hd.Is (H : Hd) (base : Nat) (w : World) : Prop where
  box : BoxA w H.hb (.slice H.sa H.sn H.sn) (.slice H.aa H.an H.an)
  shp : w.ownsRow base 3 1 (.slice H.sa H.sn H.sn) H.sn (H.S.map (Value.int .i64))
  ats : w.ownsRow base 2 1 (.slice H.aa H.an H.an) H.an (H.A.map (Value.int .i64))
  le : base ≤ H.hb
  n1 : (Value.slice H.sa H.sn H.sn).ownBlock ≠ some H.hb
  n2 : (Value.slice H.aa H.an H.an).ownBlock ≠ some H.hb
  ne : ∀ g, (Value.slice H.sa H.sn H.sn).ownBlock = some g → (Value.slice H.aa H.an H.an).ownBlock ≠ some g
  alt : (H.sa = none ∧ H.aa = none) ∨ (H.sa ≠ none ∧ H.aa ≠ none)
theorem Hd.Is.foot_lt {H : Hd} {base : Nat} {w : World} (h : H.Is base w) {k : Nat} (hk : H.foot k) : base ≤ k ∧ k < w.heap.size := by
  rcases hk with rfl | hk | hk
  · exact ⟨h.le, h.box.lt⟩
  · exact own_block h.shp hk
  · exact own_block h.ats hk
theorem Hd.Is.out {H : Hd} {base : Nat} {w w' : World} {F : Nat → Prop} (h : H.Is base w) (ho : Out F w w') (hF : ∀ k, H.foot k → ¬ F k) : H.Is base w' :=
  ⟨ho.boxA h.box (hF _ (.inl rfl)), ho.own h.shp (fun g hg => hF g (.inr (.inl hg))), ho.own h.ats (fun g hg => hF g (.inr (.inr hg))), h.le, h.n1, h.n2, h.ne, h.alt⟩
theorem Hd.Is.via {H : Hd} {base : Nat} {w w' : World} (h : H.Is base w) (hb : Below w.heap.size w w') : H.Is base w' := h.out (F := fun _ => False) (.of hb) (fun _ _ h => h)
theorem own_len {w : World} {base : Nat} {E : TypeId} {v : Value} {n : Nat} {S : List Int} (h : w.ownsRow base E 1 v n (S.map (Value.int .i64))) : S.length = n := by
  have := h.1; simpa using this
theorem Hd.Is.setS {H : Hd} {base : Nat} {w : World} (h : H.Is base w) {g k : Nat} (hg : H.sa = some ⟨g, 0, none⟩) (v : Int) : Hd.Is { H with S := H.S.set k v } base (w.setCell ⟨g, k, none⟩ (.int .i64 v)) := by
  have hv : (Value.slice H.sa H.sn H.sn).ownBlock = some g := by rw [hg]; rfl
  have hne : g ≠ H.hb := fun e => by
    exact h.n1 (by rw [hv, e])
  have ho : Out (fun k => k = g) w (w.setCell ⟨g, k, none⟩ (.int .i64 v)) := (Out.refl (fun k => k = g) w).setCell (p := ⟨g, k, none⟩) (.inl rfl) _
  have hst := h.shp
  rw [hg] at hst
  have hs := (hst.stored k (.int .i64 v)).1
  rw [← List.map_set] at hs
  exact ⟨ho.boxA h.box (fun e => hne e.symm), by rw [hg]; exact hs, ho.own h.ats (fun q hq e => h.ne g hv (by rw [hq, e])), h.le, h.n1, h.n2, h.ne, h.alt⟩
theorem Hd.Is.setA {H : Hd} {base : Nat} {w : World} (h : H.Is base w) {g k : Nat} (hg : H.aa = some ⟨g, 0, none⟩) (v : Int) : Hd.Is { H with A := H.A.set k v } base (w.setCell ⟨g, k, none⟩ (.int .i64 v)) := by
  have hv : (Value.slice H.aa H.an H.an).ownBlock = some g := by rw [hg]; rfl
  have hne : g ≠ H.hb := fun e => by
    exact h.n2 (by rw [hv, e])
  have ho : Out (fun k => k = g) w (w.setCell ⟨g, k, none⟩ (.int .i64 v)) := (Out.refl (fun k => k = g) w).setCell (p := ⟨g, k, none⟩) (.inl rfl) _
  have hst := h.ats
  rw [hg] at hst
  have hs := (hst.stored k (.int .i64 v)).1
  rw [← List.map_set] at hs
  exact ⟨ho.boxA h.box (fun e => hne e.symm), ho.own h.shp (fun q hq e => h.ne q hq (by rw [hv, e])), by rw [hg]; exact hs, h.le, h.n1, h.n2, h.ne, h.alt⟩
/-- The i-th mark behind a list. -/
def mkS (i : Nat) : Int := wrap64 (-70000 - (i : Int))
def mkA (i : Nat) : Int := wrap64 (-80000 - (i : Int))
/-- What stands in a row, as far as it reaches: a list, marks behind it. -/
def Good (s S : List Int) (f : Nat → Int) : Prop := ∀ i, i < S.length → S.getD i 0 = if i < s.length then s.getD i 0 else f i
/-- A row whose first k elements are written over. -/
def ovr (v : Int) (k : Nat) (S : List Int) : List Int := List.replicate k v ++ S.drop k
theorem ovr_len (v : Int) {k : Nat} {S : List Int} (h : k ≤ S.length) : (ovr v k S).length = S.length := by simp [ovr]; omega
theorem ovr_set (v : Int) {k : Nat} {S : List Int} (h : k < S.length) : (ovr v k S).set k v = ovr v (k + 1) S := by
  unfold ovr
  rw [List.set_append_right _ _ (by simp), List.length_replicate, Nat.sub_self, List.drop_eq_getElem_cons h, List.set_cons_zero, List.replicate_succ', List.append_assoc]
  rfl
theorem ovr_get (v : Int) {k : Nat} {S : List Int} (h : k < S.length) : (ovr v k S).getD k 0 = S.getD k 0 := by
  unfold ovr
  rw [List.getD_eq_getElem?_getD, List.getElem?_append_right (by simp), List.length_replicate, Nat.sub_self, List.getElem?_drop, Nat.add_zero, List.getD_eq_getElem?_getD]
/-- The hand after Kept: its own blocks alone were written. -/
def KeptP (H : Hd) (base : Nat) (w : World) (e : Ending) (w' : World) : Prop :=
  e = .returned (.bool true) ∧ Out H.foot w w' ∧ ∃ H' : Hd, H'.hb = H.hb ∧ (∀ k, H'.foot k → H.foot k) ∧ H'.Is base w'
theorem beq_same (x : Int) : (x == x) = true := by simp
set_option maxRecDepth 100000 in
set_option maxHeartbeats 1600000 in
theorem kept_any {w0 w : World} {H : Hd} {A : Ar} (hA : A.Is w0) (hv : Below w0.heap.size w0 w) (hH : H.Is w0.heap.size w) (hs : Good A.s H.S mkS) (ha : Good A.a H.A mkA) :
    Calls Try.prog 36 #[.pointer (some ⟨H.hb, 0, none⟩), A.v] w (KeptP H w0.heap.size w) := by
  obtain ⟨ta, tn, tc, ba, bn, bc, t, b⟩ := A
  simp only [Ar.v] at hs ha ⊢
  obtain ⟨hb, sa, sn, aa, an, S, R⟩ := H
  simp only at hs ha ⊢
  obtain ⟨W, HW⟩ : ∃ z, Hid (w.alloc (.cells #[.slice ta tn tc, .slice ba bn bc] 55) = z) := ⟨_, rfl⟩
  have hw : Below w.heap.size w W := by rw [← HW.out]; exact abal _ _
  have BY : Hid (BoxA W w.heap.size (.slice ta tn tc) (.slice ba bn bc)) := by show BoxA _ _ _ _; rw [← HW.out]; exact BoxA.new _ _ _ _
  have HHW := Lib.hid (hH.via hw)
  have HVW := Lib.hid (hv.trans (hw.mono hv.size))
  have HWB := Lib.hid hw
  have HF := Lib.hid (fun k (hk : Hd.foot ⟨hb, sa, sn, aa, an, S, R⟩ k) => hH.foot_lt hk)
  have LT := Lib.hid hA.shp.len
  have LB := Lib.hid hA.ats.len
  have LS := Lib.hid (own_len hH.shp)
  have LR := Lib.hid (own_len hH.ats)
  have gs := hH.shp
  obtain ⟨gs1, gs2, -⟩ := own_full gs
  have ga := hH.ats
  obtain ⟨ga1, ga2, -⟩ := own_full ga
  simp only at LT LB LS LR gs2 ga2
  unfold maxLen at gs2 ga2
  have HS := Lib.hid hs
  have HA := Lib.hid ha
  have IA := Lib.hid hA
  have bt := hA.shp.big
  have bb := hA.ats.big
  simp only at bt bb
  have HZ : Hid (∀ wr, Out (Hd.foot ⟨hb, sa, sn, aa, an, S, R⟩) W wr → Below w0.heap.size w0 wr ∧ BoxA wr w.heap.size (.slice ta tn tc) (.slice ba bn bc)) := by
    intro wr ho
    refine ⟨HVW.out.trans (ho.toBelow (fun k hk => (HF.out k hk).1) (Nat.le_trans HVW.out.size (Nat.le_refl _))), ho.boxA BY.out fun hk => ?_⟩
    have := (HF.out _ hk).2; omega
  clear hA hv hH hs ha hw gs ga
  go_enter Try.func36, Try.ntmps36
  have q0 := HHW.out.box
  simp only at q0
  obtain ⟨x0, x1, x2, x3, x4⟩ := q0
  obtain ⟨y0, y1, -, -, -⟩ := BY.out
  go_wp2_with fail
  rw [HW.out]
  go_loopw [5, 6] (fun o i wr => ∃ k : Nat, k ≤ sn ∧ o = .bool true ∧ i = .int .i64 k ∧ Hid (Hd.Is ⟨hb, sa, sn, aa, an, ovr 3 k S, R⟩ w0.heap.size wr) ∧ Hid (Out (Hd.foot ⟨hb, sa, sn, aa, an, S, R⟩) W wr)) (fun _ i _ => sn - (RowKit.intOf i).toNat)
  case atStart => exact ⟨0, Nat.zero_le _, rfl, rfl, HHW, Out.refl _ _⟩
  case round =>
    obtain ⟨k, hk, rfl, rfl, HI, HO⟩ := hrel
    clear x0 x1 x2 x3 x4 y0 y1
    have q0 := HI.out.box
    simp only at q0
    obtain ⟨x0, x1, x2, x3, x4⟩ := q0
    obtain ⟨HBV, q1⟩ := HZ.out wr HO.out
    obtain ⟨y0, y1, -, -, -⟩ := q1
    have HBV := Lib.hid HBV
    by_cases hlt : k < sn
    · have hlt' : (k : Int) < sn := by omega
      obtain ⟨g, rfl, hg1, hg2⟩ := own_some HI.out.shp (show 0 < sn by omega)
      have hSk := HS.out k (by rw [LS.out]; exact hlt)
      have hlk : k < (ovr 3 k S).length := by rw [ovr_len _ (by rw [LS.out]; exact hk), LS.out]; exact hlt
      have d1 : wr.cell? ⟨g, k, none⟩ = some (.int .i64 (S.getD k 0)) := by
        have h := HI.out.shp.cellAt k (by simp only; omega)
        simp only at h
        rw [h, getD_map_int _ k hlk, ovr_get _ (by rw [LS.out]; exact hlt)]
      have d2 : wr.frozen? ⟨g, k, none⟩ = false := HI.out.shp.frozenAt k
      have HI2 : Hid (Hd.Is ⟨hb, some ⟨g, 0, none⟩, sn, aa, an, ovr 3 (k + 1) S, R⟩ w0.heap.size (wr.setCell ⟨g, k, none⟩ (.int .i64 3))) := by
        have h := HI.out.setS (g := g) (k := k) rfl 3
        simp only [ovr_set _ (show k < S.length by rw [LS.out]; exact hlt)] at h
        exact h
      have HO2 : Hid (Out (Hd.foot ⟨hb, some ⟨g, 0, none⟩, sn, aa, an, S, R⟩) W (wr.setCell ⟨g, k, none⟩ (.int .i64 3))) := HO.out.setCell (p := ⟨g, k, none⟩) (.inl (Or.inr (Or.inl rfl))) _
      by_cases hkt : k < tn
      · have hkt' : (k : Int) < tn := by omega
        rw [LT.out, if_pos hkt] at hSk
        obtain ⟨ob, fb, rfl, hcb⟩ := (IA.out.via HBV.out).shp.at (show 0 < tn by omega)
        have d3 := hcb k hkt
        simp only at d3
        rw [hSk] at d1
        obtain ⟨x, HX⟩ : ∃ z, Hid (t.getD k 0 = z) := ⟨_, rfl⟩
        rw [HX.out] at d1 d3
        have hb := beq_same x
        clear hcb hSk hlk hg1 hg2
        go_wp2
        go_roundw
        case rel => exact ⟨k + 1, by omega, by first | rfl | simp, by go_num, HI2, HO2⟩
        case measure => simp [RowKit.intOf]; omega
      · have hkt' : (tn : Int) ≤ k := by omega
        rw [LT.out, if_neg hkt] at hSk
        unfold mkS at hSk
        rw [hSk] at d1
        have hb := beq_same (wrap64 (-70000 - (k : Int)))
        clear hSk hlk hg1 hg2
        go_wp2
        go_roundw
        case rel => exact ⟨k + 1, by omega, by first | rfl | simp, by go_num, HI2, HO2⟩
        case measure => simp [RowKit.intOf]; omega
    · have hge : (sn : Int) ≤ k := by omega
      obtain ⟨S2, HS2⟩ : ∃ z, Hid (ovr 3 k S = z) := ⟨_, rfl⟩
      rw [HS2.out] at HI
      have HI0 := HI
      have HO0 := HO
      clear hlt
      go_wp2_with fail
      go_loopw [5, 8] (fun o i wr => ∃ k : Nat, k ≤ an ∧ o = .bool true ∧ i = .int .i64 k ∧ Hid (Hd.Is ⟨hb, sa, sn, aa, an, S2, ovr 99 k R⟩ w0.heap.size wr) ∧ Hid (Out (Hd.foot ⟨hb, sa, sn, aa, an, S, R⟩) W wr)) (fun _ i _ => an - (RowKit.intOf i).toNat)
      case atStart => exact ⟨0, Nat.zero_le _, rfl, rfl, HI0, HO0⟩
      case round =>
        clear HI HO HI0 HO0 HBV hk hge HS2
        obtain ⟨k, hk, rfl, rfl, HI, HO⟩ := hrel
        clear x0 x1 x2 x3 x4 y0 y1
        have q0 := HI.out.box
        simp only at q0
        obtain ⟨x0, x1, x2, x3, x4⟩ := q0
        obtain ⟨HBV, q1⟩ := HZ.out wr HO.out
        obtain ⟨y0, y1, -, -, -⟩ := q1
        have HBV := Lib.hid HBV
        by_cases hlt : k < an
        · have hlt' : (k : Int) < an := by omega
          obtain ⟨g, rfl, hg1, hg2⟩ := own_some HI.out.ats (show 0 < an by omega)
          have hSk := HA.out k (by rw [LR.out]; exact hlt)
          have hlk : k < (ovr 99 k R).length := by rw [ovr_len _ (by rw [LR.out]; exact hk), LR.out]; exact hlt
          have d1 : wr.cell? ⟨g, k, none⟩ = some (.int .i64 (R.getD k 0)) := by
            have h := HI.out.ats.cellAt k (by simp only; omega)
            simp only at h
            rw [h, getD_map_int _ k hlk, ovr_get _ (by rw [LR.out]; exact hlt)]
          have d2 : wr.frozen? ⟨g, k, none⟩ = false := HI.out.ats.frozenAt k
          have HI2 : Hid (Hd.Is ⟨hb, sa, sn, some ⟨g, 0, none⟩, an, S2, ovr 99 (k + 1) R⟩ w0.heap.size (wr.setCell ⟨g, k, none⟩ (.int .i64 99))) := by
            have h := HI.out.setA (g := g) (k := k) rfl 99
            simp only [ovr_set _ (show k < R.length by rw [LR.out]; exact hlt)] at h
            exact h
          have HO2 : Hid (Out (Hd.foot ⟨hb, sa, sn, some ⟨g, 0, none⟩, an, S, R⟩) W (wr.setCell ⟨g, k, none⟩ (.int .i64 99))) := HO.out.setCell (p := ⟨g, k, none⟩) (.inl (Or.inr (Or.inr rfl))) _
          by_cases hkt : k < bn
          · have hkt' : (k : Int) < bn := by omega
            rw [LB.out, if_pos hkt] at hSk
            obtain ⟨ob, fb, rfl, hcb⟩ := (IA.out.via HBV.out).ats.at (show 0 < bn by omega)
            have d3 := hcb k hkt
            simp only at d3
            rw [hSk] at d1
            obtain ⟨x, HX⟩ : ∃ z, Hid (b.getD k 0 = z) := ⟨_, rfl⟩
            rw [HX.out] at d1 d3
            have hb := beq_same x
            clear hcb hSk hlk hg1 hg2
            go_wp2
            go_roundw
            case rel => exact ⟨k + 1, by omega, by first | rfl | simp, by go_num, HI2, HO2⟩
            case measure => simp [RowKit.intOf]; omega
          · have hkt' : (bn : Int) ≤ k := by omega
            rw [LB.out, if_neg hkt] at hSk
            unfold mkA at hSk
            rw [hSk] at d1
            have hb := beq_same (wrap64 (-80000 - (k : Int)))
            clear hSk hlk hg1 hg2
            go_wp2
            go_roundw
            case rel => exact ⟨k + 1, by omega, by first | rfl | simp, by go_num, HI2, HO2⟩
            case measure => simp [RowKit.intOf]; omega
        · have hge : (an : Int) ≤ k := by omega
          have HE : Hid (KeptP ⟨hb, sa, sn, aa, an, S, R⟩ w0.heap.size w (.returned (.bool true)) wr) :=
            ⟨rfl, (Out.of HWB.out).trans HO.out (fun _ _ h => h), ⟨hb, sa, sn, aa, an, S2, ovr 99 k R⟩, rfl, fun k h => h, HI.out⟩
          clear hlt
          go_wp2
          go_ret
          exact HE.out
def shB (A : Ar) : Bool := decide (A.sn ≤ 5000) && decide (A.an ≤ 5000)
set_option maxRecDepth 100000 in
set_option maxHeartbeats 400000 in
theorem short_any {w : World} {A : Ar} (hA : A.Is w) : Calls Try.prog 22 #[A.v] w (RetB w (.bool (shB A))) := by
  obtain ⟨ta, tn, tc, ba, bn, bc, t, b⟩ := A
  simp only [Ar.v]
  by_cases h1 : tn ≤ 5000
  · by_cases h2 : bn ≤ 5000
    · have e : shB ⟨ta, tn, tc, ba, bn, bc, t, b⟩ = true := by simp [shB, h1, h2]
      have h1' : (tn : Int) ≤ 5000 := by omega
      have h2' : (bn : Int) ≤ 5000 := by omega
      rw [e]
      clear hA e
      go_enter Try.func22, Try.ntmps22
      go_wp2
      go_ret
      exact RetB.mk rfl (abal _ _)
    · have e : shB ⟨ta, tn, tc, ba, bn, bc, t, b⟩ = false := by simp [shB, h1, h2]
      have h1' : (tn : Int) ≤ 5000 := by omega
      have h2' : (5000 : Int) < bn := by omega
      rw [e]
      clear hA e
      go_enter Try.func22, Try.ntmps22
      go_wp2
      go_ret
      exact RetB.mk (boolv (decide_eq_false (by omega))) (abal _ _)
  · have e : shB ⟨ta, tn, tc, ba, bn, bc, t, b⟩ = false := by simp [shB, h1]
    have h1' : (5000 : Int) < tn := by omega
    rw [e]
    clear hA e
    go_enter Try.func22, Try.ntmps22
    go_wp2
    go_ret
    exact RetB.mk rfl (abal _ _)
end Go.Proofs.Ytdedbfbkakofgaa

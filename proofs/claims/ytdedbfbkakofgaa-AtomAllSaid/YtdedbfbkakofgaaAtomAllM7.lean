/- Contract of arr.Fill. Contracts of abacuslaw2.EqInts, shape.Place. Contracts of shape.indices, shape.At. -/
import Derived.Test.YtdedbfbkakofgaaAtomAllM5
import Derived.Deep.CutRange
import Derived.Deep.Cut
namespace Go.Proofs.Ytdedbfbkakofgaa
open Go.RowKit Go.Lib
set_option linter.unusedVariables false
set_option linter.unusedSimpArgs false
attribute [local go_sem] alloc_drewN setCell_drewN

set_option maxRecDepth 100000 in
theorem mk_int (N : Nat) (hN : N ≤ 1000000) (w : World) : (Instr.makeSlice 25 (.int .i64 (N : Int)) (.int .i64 (N : Int))).run Try.prog w = .ok (.slice (some ⟨w.heap.size, 0, none⟩) N N) (w.alloc (.cells (Array.replicate N (.int .i64 0)) 3)) := by
  obtain ⟨i0, hi, hz0, hz1, hz2⟩ := info_parts (P := Try.prog) (e := 3) (z := .int .i64 0) (size := 1) (bytes := 8) (by kernel_rfl)
  have h := run_make (P := Try.prog) w 25 3 i0 (.int .i64 0) Try.underlying25 hi hz0 .i64 .i64 N N (by omega) (Int.le_refl _) (by rw [hz2]; omega) (by omega)
  rw [h]
  have e : madeCells (Value.int .i64 0).cells (((N : Int).toNat) * i0.size) = Array.replicate N (.int .i64 0) := by
    rw [hz1, Nat.mul_one, Int.toNat_natCast]
    exact Array.ext' (by rw [show (Value.int .i64 0).cells = #[.int .i64 0] by rfl, toList_madeCells_one]; simp)
  rw [e]
  simp
set_option maxRecDepth 100000 in
theorem mk_int64 (N : Nat) (hN : N ≤ 1000000) (w : World) : (Instr.makeSlice 50 (.int .i64 (N : Int)) (.int .i64 (N : Int))).run Try.prog w = .ok (.slice (some ⟨w.heap.size, 0, none⟩) N N) (w.alloc (.cells (Array.replicate N (.int .i64 0)) 2)) := by
  obtain ⟨i0, hi, hz0, hz1, hz2⟩ := info_parts (P := Try.prog) (e := 2) (z := .int .i64 0) (size := 1) (bytes := 8) (by kernel_rfl)
  have h := run_make (P := Try.prog) w 50 2 i0 (.int .i64 0) Try.underlying50 hi hz0 .i64 .i64 N N (by omega) (Int.le_refl _) (by rw [hz2]; omega) (by omega)
  rw [h]
  have e : madeCells (Value.int .i64 0).cells (((N : Int).toNat) * i0.size) = Array.replicate N (.int .i64 0) := by
    rw [hz1, Nat.mul_one, Int.toNat_natCast]
    exact Array.ext' (by rw [show (Value.int .i64 0).cells = #[.int .i64 0] by rfl, toList_madeCells_one]; simp)
  rw [e]
  simp
theorem own_zeros (w : World) (E : TypeId) (N base : Nat) (hN : N ≤ 1000000) (hb : base ≤ w.heap.size) :
    (w.alloc (.cells (Array.replicate N (.int .i64 0)) E)).ownsRow base E 1 (.slice (some ⟨w.heap.size, 0, none⟩) N N) N ((List.replicate N (0 : Int)).map (Value.int .i64)) := by
  have h := World.ownsRow_lit (base := base) (e := E) (size := 1) w (Array.replicate N (Value.int .i64 0)) N hb (by unfold maxLen; omega) (by simp)
  simpa using h
set_option maxHeartbeats 400000 in
theorem fill_bad {w : World} {ao : Option Addr} {n c : Nat} {s : List Int} (h : Ls w ao n c s) (x : Int) (hm : mayE s ≠ 0) :
    Calls Try.prog 69 #[.slice ao n c, .int .i64 x] w (MadeE w [] [] (mayE s)) := by
  have hb : ∀ o, Below w.heap.size w (w.alloc o) := fun o => (Below.refl _ _).alloc (Nat.le_refl _) _
  have C := Lib.hid (fun o => size_any (h.below (hb o) (Nat.le_refl _)))
  have hz : szE s = 0 := by simp [szE, hm]
  obtain ⟨e, HE⟩ : ∃ e, Hid (mayE s = e) := ⟨_, rfl⟩
  have he : (e != 0) = true := by rw [← HE.out]; simpa using hm
  rw [hz, HE.out] at C
  rw [HE.out]
  clear h hb hm hz
  go_enter Try.func69, Try.ntmps69
  go_wp2_with fail
  refine (C.out _).mono ?_; rintro e' w' ⟨rfl, rfl⟩
  go_wp2
  exact bodyPost_ret (v := .tuple #[.agg #[.slice none 0 0, .slice none 0 0], .int .i64 e]) (by simp [results, Try.results69, go_sem, *]) rfl ⟨⟨none, 0, 0, none, 0, 0, [], []⟩, rfl, Ar.is_nil _, rfl, rfl, Ar.own_nil _ _, (Below.refl _ _).alloc (Nat.le_refl _) _⟩
/-- What lies behind the making of an array out of a copied shape and a row of zeros. -/
structure FillMid (w' wx : World) (b8 n : Nat) (ao1 : Option Addr) (c1 N g : Nat) (s : List Int) (z : List Int) : Prop where
  box : BoxA wx b8 (.slice ao1 n c1) (.slice (some ⟨g, 0, none⟩) N N)
  le : w'.heap.size ≤ b8
  L1 : Ls wx ao1 n c1 s
  O1 : wx.ownsRow w'.heap.size 3 1 (.slice ao1 n c1) n (s.map (Value.int .i64))
  O2 : wx.ownsRow w'.heap.size 2 1 (.slice (some ⟨g, 0, none⟩) N N) N (z.map (Value.int .i64))
  ne : (Value.slice ao1 n c1).ownBlock ≠ some g
  n1 : (Value.slice ao1 n c1).ownBlock ≠ some b8
  n2 : g ≠ b8
  below : Below w'.heap.size w' wx
theorem BoxA.set {W : World} {b : Nat} {u v : Value} (h : BoxA W b u v) (u' v' : Value) : BoxA ((W.setCell ⟨b, 0, none⟩ u').setCell ⟨b, 1, none⟩ v') b u' v' := by
  obtain ⟨c0, c1, f0, f1, lt⟩ := h
  exact ⟨by simp [go_sem, *], by simp [go_sem, *], by simp [go_sem, *], by simp [go_sem, *], by simpa using lt⟩
theorem BoxA.new (W : World) (T : TypeId) (u v : Value) : BoxA (W.alloc (.cells #[u, v] T)) W.heap.size u v :=
  ⟨by simp [go_sem], by simp [go_sem], by simp [go_sem], by simp [go_sem], by simp⟩
theorem ls_set {w : World} {ao : Option Addr} {n c : Nat} {s : List Int} {base b : Nat} {E : TypeId} (h : Ls w ao n c s) (hO : w.ownsRow base E 1 (.slice ao n c) n (s.map (Value.int .i64))) (hb : b < base) (u v : Value) :
    Ls ((w.setCell ⟨b, 0, none⟩ u).setCell ⟨b, 1, none⟩ v) ao n c s :=
  ls_of_own (ownsRow_setCell_below (ownsRow_setCell_below hO (by exact hb) _) (by exact hb) _) h.big h.rng
section
variable {w' w2 : World} {n c1 N : Nat} {ao1 : Option Addr} {s : List Int}
theorem fm_135 (hN : N ≤ 1000000) (hL : Ls w2 ao1 n c1 s) (hO : w2.ownsRow w'.drew.heap.size 3 1 (.slice ao1 n c1) n (s.map (Value.int .i64))) (hB : Below w'.drew.heap.size w'.drew w2) :
    FillMid w' ((w2.alloc (.cells (Array.replicate N (.int .i64 0)) 2)).alloc (.cells #[.slice ao1 n c1, .slice (some ⟨w2.heap.size, 0, none⟩) N N] 55)) (w2.heap.size + 1) n ao1 c1 N (w2.heap.size) s (List.replicate N 0) := by
  have hs := hB.size
  rw [show w'.drew.heap.size = w'.heap.size from rfl] at hs hO
  have hB' : Below w'.heap.size w' w2 := (Below.refl _ _).drew.trans hB
  refine ⟨by simpa using BoxA.new (w2.alloc (.cells (Array.replicate N (.int .i64 0)) 2)) _ _ _, by omega, ?_, (hO.alloc _).alloc _, (own_zeros w2 _ N _ hN hs).alloc _, ?_, ?_, ?_, (hB'.alloc hs _).alloc (by simp; omega) _⟩
  · exact (hL.below ((Below.refl _ _).alloc (Nat.le_refl _) _) (Nat.le_refl _)).below ((Below.refl _ _).alloc (Nat.le_refl _) _) (Nat.le_refl _)
  · intro h1; have := own_block hO h1; omega
  · intro h1; have := own_block hO h1; omega
  · omega
theorem fm_153 (hN : N ≤ 1000000) (hL : Ls w2 ao1 n c1 s) (hO : w2.ownsRow w'.drew.heap.size 3 1 (.slice ao1 n c1) n (s.map (Value.int .i64))) (hB : Below w'.drew.heap.size w'.drew w2) :
    FillMid w' ((w2.alloc (.cells #[.slice ao1 n c1, .slice (some ⟨w2.heap.size + 1, 0, none⟩) N N] 55)).alloc (.cells (Array.replicate N (.int .i64 0)) 2)) w2.heap.size n ao1 c1 N (w2.heap.size + 1) s (List.replicate N 0) := by
  have hs := hB.size
  rw [show w'.drew.heap.size = w'.heap.size from rfl] at hs hO
  have hB' : Below w'.heap.size w' w2 := (Below.refl _ _).drew.trans hB
  have hz := own_zeros (w2.alloc (.cells #[.slice ao1 n c1, .slice (some ⟨w2.heap.size + 1, 0, none⟩) N N] 55)) 2 N w'.heap.size hN (by simp; omega)
  refine ⟨(BoxA.new w2 _ _ _).below ((Below.refl _ _).alloc (Nat.le_refl _) _) (by simp), hs, ?_, (hO.alloc _).alloc _, by simpa using hz, ?_, ?_, ?_, (hB'.alloc hs _).alloc (by simp; omega) _⟩
  · exact (hL.below ((Below.refl _ _).alloc (Nat.le_refl _) _) (Nat.le_refl _)).below ((Below.refl _ _).alloc (Nat.le_refl _) _) (Nat.le_refl _)
  · intro h1; have := own_block hO h1; omega
  · intro h1; have := own_block hO h1; omega
  · omega
theorem fm_315 (hN : N ≤ 1000000) (hL : Ls w2 ao1 n c1 s) (hO : w2.ownsRow (w'.alloc (.cells (Array.replicate N (.int .i64 0)) 2)).drew.heap.size 3 1 (.slice ao1 n c1) n (s.map (Value.int .i64))) (hB : Below (w'.alloc (.cells (Array.replicate N (.int .i64 0)) 2)).drew.heap.size (w'.alloc (.cells (Array.replicate N (.int .i64 0)) 2)).drew w2) :
    FillMid w' (w2.alloc (.cells #[.slice ao1 n c1, .slice (some ⟨w'.heap.size, 0, none⟩) N N] 55)) w2.heap.size n ao1 c1 N (w'.heap.size) s (List.replicate N 0) := by
  have hs := hB.size
  rw [show (w'.alloc (.cells (Array.replicate N (.int .i64 0)) 2)).drew.heap.size = w'.heap.size + 1 by simp] at hs hO
  have hB' : Below w'.heap.size w' w2 := ((Below.refl _ _).alloc (Nat.le_refl _) _).drew.trans (hB.mono (by simp))
  have hz := own_below (w := (w'.alloc (.cells (Array.replicate N (.int .i64 0)) 2)).drew) (own_zeros w' 2 N w'.heap.size hN (Nat.le_refl _)).drew hB (Nat.le_refl _)
  refine ⟨BoxA.new w2 _ _ _, by omega, hL.below ((Below.refl _ _).alloc (Nat.le_refl _) _) (Nat.le_refl _), own_mono (hO.alloc _) (by omega), hz.alloc _, ?_, ?_, ?_, hB'.alloc (by omega) _⟩
  · intro h1; have := own_block hO h1; omega
  · intro h1; have := own_block hO h1; omega
  · omega
theorem fm_351 (hN : N ≤ 1000000) (hL : Ls w2 ao1 n c1 s) (hO : w2.ownsRow ((w'.alloc (.cells (Array.replicate N (.int .i64 0)) 2)).alloc (.cells #[.slice none 0 0, .slice none 0 0] 55)).drew.heap.size 3 1 (.slice ao1 n c1) n (s.map (Value.int .i64))) (hB : Below ((w'.alloc (.cells (Array.replicate N (.int .i64 0)) 2)).alloc (.cells #[.slice none 0 0, .slice none 0 0] 55)).drew.heap.size ((w'.alloc (.cells (Array.replicate N (.int .i64 0)) 2)).alloc (.cells #[.slice none 0 0, .slice none 0 0] 55)).drew w2)
    (hX : BoxA w2 (w'.heap.size + 1) (.slice none 0 0) (.slice none 0 0)) :
    FillMid w' ((w2.setCell ⟨w'.heap.size + 1, 0, none⟩ (.slice ao1 n c1)).setCell ⟨w'.heap.size + 1, 1, none⟩ (.slice (some ⟨w'.heap.size, 0, none⟩) N N)) (w'.heap.size + 1) n ao1 c1 N (w'.heap.size) s (List.replicate N 0) := by
  have hs := hB.size
  rw [show ((w'.alloc (.cells (Array.replicate N (.int .i64 0)) 2)).alloc (.cells #[.slice none 0 0, .slice none 0 0] 55)).drew.heap.size = w'.heap.size + 2 by simp] at hs hO
  have hB' : Below w'.heap.size w' w2 := (((Below.refl _ _).alloc (Nat.le_refl _) _).alloc (by simp) _).drew.trans (hB.mono (by simp; omega))
  have hz := own_below (w := ((w'.alloc (.cells (Array.replicate N (.int .i64 0)) 2)).alloc (.cells #[.slice none 0 0, .slice none 0 0] 55)).drew) ((own_zeros w' 2 N w'.heap.size hN (Nat.le_refl _)).alloc (.cells #[.slice none 0 0, .slice none 0 0] 55)).drew hB (Nat.le_refl _)
  refine ⟨hX.set _ _, by omega, ls_set hL hO (by omega) _ _, own_mono (ownsRow_setCell_below (ownsRow_setCell_below hO (by dsimp only; omega) _) (by dsimp only; omega) _) (by omega), ?_, ?_, ?_, ?_, (hB'.setCell (by dsimp only; omega) _).setCell (by dsimp only; omega) _⟩
  · exact ownsRow_setCell_other (ownsRow_setCell_other hz (by simp [Value.ownBlock]) _) (by simp [Value.ownBlock]) _
  · intro h1; have := own_block hO h1; omega
  · intro h1; have := own_block hO h1; omega
  · omega
theorem fm_513 (hN : N ≤ 1000000) (hL : Ls w2 ao1 n c1 s) (hO : w2.ownsRow (w'.alloc (.cells #[.slice none 0 0, .slice none 0 0] 55)).drew.heap.size 3 1 (.slice ao1 n c1) n (s.map (Value.int .i64))) (hB : Below (w'.alloc (.cells #[.slice none 0 0, .slice none 0 0] 55)).drew.heap.size (w'.alloc (.cells #[.slice none 0 0, .slice none 0 0] 55)).drew w2)
    (hX : BoxA w2 w'.heap.size (.slice none 0 0) (.slice none 0 0)) :
    FillMid w' (((w2.setCell ⟨w'.heap.size, 0, none⟩ (.slice ao1 n c1)).setCell ⟨w'.heap.size, 1, none⟩ (.slice (some ⟨w2.heap.size, 0, none⟩) N N)).alloc (.cells (Array.replicate N (.int .i64 0)) 2)) w'.heap.size n ao1 c1 N (w2.heap.size) s (List.replicate N 0) := by
  have hs := hB.size
  rw [show (w'.alloc (.cells #[.slice none 0 0, .slice none 0 0] 55)).drew.heap.size = w'.heap.size + 1 by simp] at hs hO
  have hB' : Below w'.heap.size w' w2 := ((Below.refl _ _).alloc (Nat.le_refl _) _).drew.trans (hB.mono (by simp))
  have hB2 : Below w'.heap.size w' ((w2.setCell ⟨w'.heap.size, 0, none⟩ (.slice ao1 n c1)).setCell ⟨w'.heap.size, 1, none⟩ (.slice (some ⟨w2.heap.size, 0, none⟩) N N)) := (hB'.setCell (by dsimp only; omega) _).setCell (by dsimp only; omega) _
  have hz := own_zeros ((w2.setCell ⟨w'.heap.size, 0, none⟩ (.slice ao1 n c1)).setCell ⟨w'.heap.size, 1, none⟩ (.slice (some ⟨w2.heap.size, 0, none⟩) N N)) 2 N w'.heap.size hN hB2.size
  refine ⟨(hX.set _ _).below ((Below.refl _ _).alloc (Nat.le_refl _) _) (by simpa using hX.lt), Nat.le_refl _, (ls_set hL hO (by omega) _ _).below ((Below.refl _ _).alloc (Nat.le_refl _) _) (Nat.le_refl _), (own_mono (ownsRow_setCell_below (ownsRow_setCell_below hO (by dsimp only; omega) _) (by dsimp only; omega) _) (by omega)).alloc _, by simpa using hz, ?_, ?_, ?_, hB2.alloc hB2.size _⟩
  · intro h1; have := own_block hO h1; omega
  · intro h1; have := own_block hO h1; omega
  · have := hX.lt; omega
theorem fm_531 (hN : N ≤ 1000000) (hL : Ls w2 ao1 n c1 s) (hO : w2.ownsRow ((w'.alloc (.cells #[.slice none 0 0, .slice none 0 0] 55)).alloc (.cells (Array.replicate N (.int .i64 0)) 2)).drew.heap.size 3 1 (.slice ao1 n c1) n (s.map (Value.int .i64))) (hB : Below ((w'.alloc (.cells #[.slice none 0 0, .slice none 0 0] 55)).alloc (.cells (Array.replicate N (.int .i64 0)) 2)).drew.heap.size ((w'.alloc (.cells #[.slice none 0 0, .slice none 0 0] 55)).alloc (.cells (Array.replicate N (.int .i64 0)) 2)).drew w2)
    (hX : BoxA w2 w'.heap.size (.slice none 0 0) (.slice none 0 0)) :
    FillMid w' ((w2.setCell ⟨w'.heap.size, 0, none⟩ (.slice ao1 n c1)).setCell ⟨w'.heap.size, 1, none⟩ (.slice (some ⟨w'.heap.size + 1, 0, none⟩) N N)) w'.heap.size n ao1 c1 N (w'.heap.size + 1) s (List.replicate N 0) := by
  have hs := hB.size
  rw [show ((w'.alloc (.cells #[.slice none 0 0, .slice none 0 0] 55)).alloc (.cells (Array.replicate N (.int .i64 0)) 2)).drew.heap.size = w'.heap.size + 2 by simp] at hs hO
  have hB' : Below w'.heap.size w' w2 := (((Below.refl _ _).alloc (Nat.le_refl _) _).alloc (by simp) _).drew.trans (hB.mono (by simp; omega))
  have hz0 := own_zeros (w'.alloc (.cells #[.slice none 0 0, .slice none 0 0] 55)) 2 N w'.heap.size hN (by simp)
  rw [show (w'.alloc (.cells #[.slice none 0 0, .slice none 0 0] 55)).heap.size = w'.heap.size + 1 by simp] at hz0
  have hz := own_below (w := ((w'.alloc (.cells #[.slice none 0 0, .slice none 0 0] 55)).alloc (.cells (Array.replicate N (.int .i64 0)) 2)).drew) hz0.drew hB (Nat.le_refl _)
  refine ⟨hX.set _ _, Nat.le_refl _, ls_set hL hO (by omega) _ _, own_mono (ownsRow_setCell_below (ownsRow_setCell_below hO (by dsimp only; omega) _) (by dsimp only; omega) _) (by omega), ?_, ?_, ?_, ?_, (hB'.setCell (by dsimp only; omega) _).setCell (by dsimp only; omega) _⟩
  · exact ownsRow_setCell_other (ownsRow_setCell_other hz (by simp [Value.ownBlock]) _) (by simp [Value.ownBlock]) _
  · intro h1; have := own_block hO h1; omega
  · intro h1; have := own_block hO h1; omega
  · omega
end
theorem FillMid.put {w' wx : World} {b8 n c1 N g k : Nat} {ao1 : Option Addr} {s z : List Int} (h : FillMid w' wx b8 n ao1 c1 N g s z) (x : Int) : FillMid w' (wx.setCell ⟨g, k, none⟩ (.int .i64 x)) b8 n ao1 c1 N g s (z.set k x) := by
  have O1' := ownsRow_setCell_other h.O1 (a := ⟨g, k, none⟩) h.ne (.int .i64 x)
  have hg := (own_block h.O2 (g := g) rfl).1
  refine ⟨⟨?_, ?_, ?_, ?_, ?_⟩, h.le, ls_of_own O1' h.L1.big h.L1.rng, O1', ?_, h.ne, h.n1, h.n2, h.below.setCell hg _⟩
  · rw [World.cell?_setCell_far _ _ _ _ (by exact h.n2)]; exact h.box.c0
  · rw [World.cell?_setCell_far _ _ _ _ (by exact h.n2)]; exact h.box.c1
  · rw [World.frozen?_setCell]; exact h.box.f0
  · rw [World.frozen?_setCell]; exact h.box.f1
  · simpa using h.box.lt
  · have h2 := (h.O2.stored k (.int .i64 x)).1
    rw [List.map_set]
    exact h2
theorem set_fill (x : Int) (k N : Nat) (h : k < N) : (List.replicate k x ++ List.replicate (N - k) (0 : Int)).set k x = List.replicate (k + 1) x ++ List.replicate (N - (k + 1)) 0 := by
  rw [List.set_append_right _ _ (by simp)]
  simp only [List.length_replicate, Nat.sub_self]
  obtain ⟨q, hq⟩ : ∃ q, N - k = q + 1 := ⟨N - k - 1, by omega⟩
  rw [hq, show N - (k + 1) = q by omega, List.replicate_succ (n := q), List.set_cons_zero, List.replicate_succ' (n := k), List.append_assoc]
  rfl
set_option maxRecDepth 100000 in
set_option maxHeartbeats 800000 in
theorem fill_ok {w : World} {ao : Option Addr} {n c : Nat} {s : List Int} (h : Ls w ao n c s) (x : Int) (hx : -9223372036854775808 ≤ x ∧ x ≤ 9223372036854775807) (hm : mayE s = 0) :
    Calls Try.prog 69 #[.slice ao n c, .int .i64 x] w (MadeE w s (List.replicate (pr s).toNat x) 0) := by
  obtain ⟨W, HWW⟩ : ∃ W, Hid (w.alloc (.cells #[.slice none 0 0, .slice none 0 0] 55) = W) := ⟨_, rfl⟩
  have hw : Below w.heap.size w W := by rw [← HWW.out]; exact (Below.refl _ _).alloc (Nat.le_refl _) _
  have B0 : BoxA W w.heap.size (.slice none 0 0) (.slice none 0 0) := by
    rw [← HWW.out]; exact ⟨by simp [go_sem], by simp [go_sem], by simp [go_sem], by simp [go_sem], by simp⟩
  have C := Lib.hid (size_any (h.below hw (Nat.le_refl _)))
  obtain ⟨N, hN⟩ : ∃ N : Nat, szE s = N := by have := szE_bd s; exact ⟨(szE s).toNat, by omega⟩
  have hN2 : (pr s).toNat = N := by have h := hN; unfold szE at h; rw [if_pos hm] at h; omega
  have hNb : N ≤ 4096 := by have := szE_bd s; omega
  rw [hN, hm] at C
  rw [hN2]
  have CA := Lib.hid (fun W1 (hB : Below W.heap.size W W1) => clone_any ((h.below hw (Nat.le_refl _)).below hB (Nat.le_refl _)))
  have HW := Lib.hid hw
  have HB0 := Lib.hid B0
  have HH := Lib.hid h
  have hmk := fun w => mk_int64 N (by omega) w
  clear h hw hm hN hN2 B0
  go_enter Try.func69, Try.ntmps69
  go_wp2_with fail
  rw [HWW.out]
  refine C.out.mono ?_; rintro e' w' ⟨rfl, rfl⟩
  go_wp2_with fail
  have CA0 := Lib.hid (CA.out (w'.drew) ((Below.refl _ _).drew))
  have CA1 := Lib.hid (CA.out ((w'.alloc (.cells (Array.replicate N (.int .i64 0)) 2)).drew) (((Below.refl _ _).alloc (Nat.le_refl _) _).drew))
  have CA2 := Lib.hid (CA.out ((w'.alloc (.cells #[.slice none 0 0, .slice none 0 0] 55)).drew) (((Below.refl _ _).alloc (Nat.le_refl _) _).drew))
  have CA3 := Lib.hid (CA.out (((w'.alloc (.cells (Array.replicate N (.int .i64 0)) 2)).alloc (.cells #[.slice none 0 0, .slice none 0 0] 55)).drew) ((((Below.refl _ _).alloc (Nat.le_refl _) _).alloc (by simp) _).drew))
  have CA4 := Lib.hid (CA.out (((w'.alloc (.cells #[.slice none 0 0, .slice none 0 0] 55)).alloc (.cells (Array.replicate N (.int .i64 0)) 2)).drew) ((((Below.refl _ _).alloc (Nat.le_refl _) _).alloc (by simp) _).drew))
  go_cut [8] from 19 (fun v8 wx => ∃ b8 ao1 c1 g, v8 = .pointer (some ⟨b8, 0, none⟩) ∧ Hid (FillMid w' wx b8 n ao1 c1 N g s (List.replicate N 0)))
  case first =>
    go_region_held3 (fun _ => True) (trivial)
      (first
      | (go_at_call 86; (with_reducible refine Calls.mono CA0.out ?_); rintro e w2 ⟨ao1, c1, rfl, hL1, hO1, hB1⟩; have HL1 := Lib.hid hL1; have HO1 := Lib.hid hO1; have HB1 := Lib.hid hB1)
      | (go_at_call 86; (with_reducible refine Calls.mono CA1.out ?_); rintro e w2 ⟨ao1, c1, rfl, hL1, hO1, hB1⟩; have HL1 := Lib.hid hL1; have HO1 := Lib.hid hO1; have HB1 := Lib.hid hB1)
      | (go_at_call 86; (with_reducible refine Calls.mono CA2.out ?_); rintro e w2 ⟨ao1, c1, rfl, hL1, hO1, hB1⟩; have HL1 := Lib.hid hL1; have HO1 := Lib.hid hO1; have HB1 := Lib.hid hB1; have hbx : BoxA w2 (w'.heap.size) (.slice none 0 0) (.slice none 0 0) := BoxA.below (W := (w'.alloc (.cells #[.slice none 0 0, .slice none 0 0] 55)).drew) ⟨by simp [go_sem], by simp [go_sem], by simp [go_sem], by simp [go_sem], by simp; try omega⟩ hB1 (by simp; try omega); have HBX := Lib.hid hbx; obtain ⟨k0, k1, k2, k3, k4⟩ := hbx)
      | (go_at_call 86; (with_reducible refine Calls.mono CA3.out ?_); rintro e w2 ⟨ao1, c1, rfl, hL1, hO1, hB1⟩; have HL1 := Lib.hid hL1; have HO1 := Lib.hid hO1; have HB1 := Lib.hid hB1; have hbx : BoxA w2 (w'.heap.size + 1) (.slice none 0 0) (.slice none 0 0) := BoxA.below (W := ((w'.alloc (.cells (Array.replicate N (.int .i64 0)) 2)).alloc (.cells #[.slice none 0 0, .slice none 0 0] 55)).drew) ⟨by simp [go_sem], by simp [go_sem], by simp [go_sem], by simp [go_sem], by simp; try omega⟩ hB1 (by simp; try omega); have HBX := Lib.hid hbx; obtain ⟨k0, k1, k2, k3, k4⟩ := hbx)
      | (go_at_call 86; (with_reducible refine Calls.mono CA4.out ?_); rintro e w2 ⟨ao1, c1, rfl, hL1, hO1, hB1⟩; have HL1 := Lib.hid hL1; have HO1 := Lib.hid hO1; have HB1 := Lib.hid hB1; have hbx : BoxA w2 (w'.heap.size) (.slice none 0 0) (.slice none 0 0) := BoxA.below (W := ((w'.alloc (.cells #[.slice none 0 0, .slice none 0 0] 55)).alloc (.cells (Array.replicate N (.int .i64 0)) 2)).drew) ⟨by simp [go_sem], by simp [go_sem], by simp [go_sem], by simp [go_sem], by simp; try omega⟩ hB1 (by simp; try omega); have HBX := Lib.hid hbx; obtain ⟨k0, k1, k2, k3, k4⟩ := hbx)
      )
    all_goals go_wp2_with fail
    all_goals go_meet
    all_goals first
      | exact ⟨_, _, _, _, rfl, fm_135 (by omega) HL1.out HO1.out HB1.out⟩
      | exact ⟨_, _, _, _, rfl, fm_153 (by omega) HL1.out HO1.out HB1.out⟩
      | exact ⟨_, _, _, _, rfl, fm_315 (by omega) HL1.out HO1.out HB1.out⟩
      | exact ⟨_, _, _, _, rfl, fm_351 (by omega) HL1.out HO1.out HB1.out HBX.out⟩
      | exact ⟨_, _, _, _, rfl, fm_513 (by omega) HL1.out HO1.out HB1.out HBX.out⟩
      | exact ⟨_, _, _, _, rfl, fm_531 (by omega) HL1.out HO1.out HB1.out HBX.out⟩
  case rest =>
    obtain ⟨b8, ao1, c1, g, rfl, HM⟩ := hcut
    clear CA0 CA1 CA2 CA3 CA4 hmk CA
    obtain ⟨k0, k1, k2, k3, k4⟩ := HM.out.box
    go_wp2_with fail
    go_loopw [27] (fun i wr => ∃ k : Nat, k ≤ N ∧ i = .int .i64 k ∧ Hid (FillMid w' wr b8 n ao1 c1 N g s (List.replicate k x ++ List.replicate (N - k) 0))) (fun i _ => N - (RowKit.intOf i).toNat)
    case atStart => exact ⟨0, Nat.zero_le _, rfl, by simpa using HM⟩
    case round =>
      obtain ⟨k, hk, rfl, HR⟩ := hrel
      clear k0 k1 k2 k3 k4
      obtain ⟨k0, k1, k2, k3, k4⟩ := HR.out.box
      by_cases hlt : k < N
      · have hlt' : (k : Int) < N := by omega
        have d1 : ∃ v, wr.cell? ⟨g, k, none⟩ = some v := by
          rw [HR.out.O2.cellAt k (by omega)]
          exact ⟨_, List.getElem?_eq_getElem (by simp; omega)⟩
        obtain ⟨v0, d1⟩ := d1
        have d2 := HR.out.O2.frozenAt k
        have HP := Lib.hid (HR.out.put (k := k) x)
        rw [set_fill x k N hlt] at HP
        go_wp2
        go_roundw
        case rel => exact ⟨k + 1, by omega, by go_num, HP⟩
        case measure => simp [RowKit.intOf]; omega
      · obtain rfl : k = N := by omega
        have hge : (k : Int) ≤ k := Int.le_refl _
        obtain ⟨j0, j1, j2, j3, j4⟩ := HB0.out.below HR.out.below HB0.out.lt
        have hE : MadeE w s (List.replicate k x) 0 (.returned (.tuple #[.agg #[.slice ao1 n c1, .slice (some ⟨g, 0, none⟩) k k], .int .i64 0])) ((wr.setCell ⟨w.heap.size, 0, none⟩ (.slice ao1 n c1)).setCell ⟨w.heap.size, 1, none⟩ (.slice (some ⟨g, 0, none⟩) k k)) := by
          have hR := HR.out
          have hs := HW.out.size
          have hl := HB0.out.lt
          rw [Nat.sub_self, List.replicate_zero, List.append_nil] at hR
          refine made_mk 0 (((HW.out.trans (hR.below.mono hs)).setCell (by simp) _).setCell (by simp) _) (own_mono (ownsRow_setCell_below (ownsRow_setCell_below hR.O1 (by dsimp only; omega) _) (by dsimp only; omega) _) hs) (own_mono (ownsRow_setCell_below (ownsRow_setCell_below hR.O2 (by dsimp only; omega) _) (by dsimp only; omega) _) hs) ?_ hR.L1.big (by omega) hR.L1.rng ?_
          · intro q h1 h2
            simp [Value.ownBlock] at h2
            subst h2
            exact hR.ne h1
          · intro i
            by_cases hi : i < k
            · simpa [List.getD, hi] using hx
            · simp [List.getD, hi]
        have HE := Lib.hid hE
        clear hE
        go_wp2
        exact bodyPost_ret (v := .tuple #[.agg #[.slice ao1 n c1, .slice (some ⟨g, 0, none⟩) k k], .int .i64 0]) (by simp [results, Try.results69, go_sem, *]) rfl HE.out
end Go.Proofs.Ytdedbfbkakofgaa

namespace Go.Proofs.Ytdedbfbkakofgaa
open Go.RowKit Go.Lib
set_option linter.unusedVariables false
set_option linter.unusedSimpArgs false
attribute [local go_sem] alloc_drewN setCell_drewN

set_option maxHeartbeats 800000 in
theorem eqints_any {w : World} {a1 a2 : Option Addr} {n1 c1 n2 c2 : Nat} {s t : List Int} (h1 : Ls w a1 n1 c1 s) (h2 : Ls w a2 n2 c2 t) :
    Calls Try.prog 19 #[.slice a1 n1 c1, .slice a2 n2 c2] w (Ret w (.bool (decide (s = t)))) := by
  have l1 := h1.len
  have l2 := h2.len
  have g1 := h1.big
  obtain ⟨r, HR⟩ : ∃ r, Hid (decide (s = t) = r) := ⟨_, rfl⟩
  rw [HR.out]
  by_cases hst : ¬ n1 = n2
  · have hr : Hid (r = false) := by
      show r = false
      rw [← HR.out]; simp only [decide_eq_false_iff_not]
      rintro rfl; omega
    have hne : ((n1 : Int) != n2) = true := by simp; omega
    have hne' : (n1 != n2) = true := by simp; omega
    clear l1 l2 h1 h2 hst
    go_enter Try.func19, Try.ntmps19
    go_wp2
    go_ret
    exact Ret.mk0 (boolv hr.out.symm)
  have hst' : n1 = n2 := by omega
  subst hst'
  have H1 := Lib.hid h1
  have H2 := Lib.hid h2
  have L1 := Lib.hid l1
  have L2 := Lib.hid l2
  have q1 : ((n1 : Int) != n1) = false := by simp
  clear h1 h2 l1 l2 hst
  go_enter Try.func19, Try.ntmps19
  go_wp2
  clear q1
  go_loopw [5] (fun i wr => ∃ k : Nat, k ≤ n1 ∧ i = .int .i64 k ∧ Hid (∀ j, j < k → s.getD j 0 = t.getD j 0) ∧ ∃ q, wr = w.drewN q) (fun i _ => n1 - (RowKit.intOf i).toNat)
  case atStart => exact ⟨0, Nat.zero_le _, rfl, fun j hj => absurd hj (by omega), 0, rfl⟩
  case round =>
    obtain ⟨k, hk, rfl, hs, q, rfl⟩ := hrel
    by_cases hlt : k < n1
    · have hlt' : (k : Int) < n1 := by omega
      obtain ⟨b1, o1, rfl, hc1⟩ := H1.out.at (by omega)
      obtain ⟨b2, o2, rfl, hc2⟩ := H2.out.at (by omega)
      have d1 := hc1 k hlt
      have d2 := hc2 k hlt
      clear hc1 hc2
      obtain ⟨x, HX⟩ : ∃ x, Hid (s.getD k 0 = x) := ⟨_, rfl⟩
      obtain ⟨y, HY⟩ : ∃ y, Hid (t.getD k 0 = y) := ⟨_, rfl⟩
      rw [HX.out] at d1
      rw [HY.out] at d2
      by_cases hxy : x = y
      · subst hxy
        have hs' : Hid (∀ j, j < k + 1 → s.getD j 0 = t.getD j 0) := by
          intro j hj
          by_cases e : j = k
          · subst e; rw [HX.out, HY.out]
          · exact hs.out j (by omega)
        go_wp2
        go_quiet (fail)
        go_wp2
        go_roundw
        case rel => exact ⟨k + 1, by omega, by go_num, hs', _, rfl⟩
        case measure => simp [RowKit.intOf]; omega
      · have hne : (x != y) = true := by simpa using hxy
        have hr : Hid (r = false) := by
          show r = false
          rw [← HR.out]
          simp only [decide_eq_false_iff_not]
          intro h
          exact hxy (by rw [← HX.out, ← HY.out, h])
        go_wp2
        go_quiet (fail)
        go_wp2
        go_ret
        exact ⟨congrArg Ending.returned (boolv hr.out.symm), _, World.drewN_drewN _ _ _⟩
    · have hr : Hid (r = true) := by
        show r = true
        rw [← HR.out]
        simp only [decide_eq_true_eq]
        exact list_eq_of L1.out L2.out hs.out (by omega)
      have hge : (n1 : Int) ≤ k := by omega
      go_wp2
      go_ret
      exact Ret.mk _ (boolv hr.out.symm)
/-- The number of the place with the first k indices. -/
def plN (s a : List Int) : Nat → Int
  | 0 => 0
  | k + 1 => plN s a k * s.getD k 0 + a.getD k 0
/-- The first k indices lie in the shape. -/
def inR (s a : List Int) (k : Nat) : Prop := ∀ i, i < k → 0 ≤ a.getD i 0 ∧ a.getD i 0 < s.getD i 0
instance (s a : List Int) (k : Nat) : Decidable (inR s a k) := by unfold inR; infer_instance
theorem plN_bd {s a : List Int} (hs : ∀ i, 0 ≤ s.getD i 0) {k : Nat} (hk : k ≤ s.length) (h : inR s a k) : 0 ≤ plN s a k ∧ plN s a k < pr (s.take k) := by
  induction k with
  | zero => simp [plN, pr]
  | succ k ih =>
    obtain ⟨h1, h2⟩ := ih (by omega) (fun i hi => h i (by omega))
    obtain ⟨h3, h4⟩ := h k (by omega)
    rw [pr_snoc (by omega)]
    simp only [plN]
    have h5 : 0 ≤ plN s a k * s.getD k 0 := Int.mul_nonneg h1 (hs k)
    have h6 : (plN s a k + 1) * s.getD k 0 ≤ pr (s.take k) * s.getD k 0 := Int.mul_le_mul_of_nonneg_right (by omega) (hs k)
    rw [Int.add_mul, Int.one_mul] at h6
    omega
def plV (s a : List Int) : Int := if mayE s = 0 ∧ a.length = s.length ∧ inR s a s.length then plN s a s.length else 0
def plE (s a : List Int) : Int := if mayE s = 0 then if a.length = s.length then if inR s a s.length then 0 else 13 else 12 else mayE s
set_option maxRecDepth 100000 in
set_option maxHeartbeats 800000 in
theorem place_any {w : World} {a1 a2 : Option Addr} {n1 c1 n2 c2 : Nat} {s t : List Int} (h1 : Ls w a1 n1 c1 s) (h2 : Ls w a2 n2 c2 t) :
    Calls Try.prog 42 #[.slice a1 n1 c1, .slice a2 n2 c2] w (RetS w (.tuple #[.int .i64 (plV s t), .int .i64 (plE s t)])) := by
  have CM := Lib.hid (may_any h1)
  obtain ⟨v, HV⟩ : ∃ v, Hid (plV s t = v) := ⟨_, rfl⟩
  obtain ⟨e, HE⟩ : ∃ v, Hid (plE s t = v) := ⟨_, rfl⟩
  rw [HV.out, HE.out]
  by_cases hm : ¬ mayE s = 0
  · obtain rfl : v = 0 := by rw [← HV.out]; simp [plV, hm]
    obtain rfl : e = mayE s := by rw [← HE.out]; simp [plE, hm]
    obtain ⟨e, he⟩ : ∃ v, mayE s = v := ⟨_, rfl⟩
    rw [he] at CM hm ⊢
    have hm' : (e != 0) = true := by simpa using hm
    clear h1 h2 HE HV he hm
    go_enter Try.func42, Try.ntmps42
    go_wp2_with fail
    refine CM.out.mono ?_; rintro e' w' ⟨rfl, rfl⟩
    go_wp2
    go_ret2
    exact RetS.mk rfl
  have hm : mayE s = 0 := by simpa using hm
  rw [hm] at CM
  have l1 := h1.len
  have l2 := h2.len
  by_cases hl : ¬ t.length = s.length
  · obtain rfl : v = 0 := by rw [← HV.out]; simp [plV, hl]
    obtain rfl : e = 12 := by rw [← HE.out]; simp [plE, hm, hl]
    have hne : ((n2 : Int) != n1) = true := by simp; omega
    have hne' : (n2 != n1) = true := by simp; omega
    clear h1 h2 HE HV hm l1 l2 hl
    go_enter Try.func42, Try.ntmps42
    go_wp2_with fail
    refine CM.out.mono ?_; rintro e' w' ⟨rfl, rfl⟩
    go_wp2
    go_ret2
    exact RetS.mk rfl
  have hl : t.length = s.length := by simpa using hl
  obtain rfl : n2 = n1 := by omega
  obtain ⟨g1, g2, g3⟩ := mayE_zero hm
  have HG1 := Lib.hid g1
  have HG3 := Lib.hid g3
  have H1 := Lib.hid h1
  have H2 := Lib.hid h2
  have L1 := Lib.hid l1
  have HM := Lib.hid hm
  have HL := Lib.hid hl
  have hb : n2 ≤ 8 := by omega
  have q1 : ((n2 : Int) != n2) = false := by simp
  have q2 : (n2 != n2) = false := by simp
  clear h1 h2 g1 g2 g3 l1 l2 hm hl
  go_enter Try.func42, Try.ntmps42
  go_wp2_with fail
  refine CM.out.mono ?_; rintro e' w' ⟨rfl, rfl⟩
  go_wp2_with fail
  go_loopw [7, 22] (fun p i wr => ∃ (k : Nat) (P : Int), k ≤ n2 ∧ i = .int .i64 k ∧ p = .int .i64 P ∧ Hid (plN s t k = P) ∧ Hid (inR s t k) ∧ wr = w') (fun _ i _ => n2 - (RowKit.intOf i).toNat)
  case atStart => exact ⟨0, 0, Nat.zero_le _, rfl, rfl, rfl, fun i hi => absurd hi (by omega), rfl⟩
  case round =>
    obtain ⟨k, P, hk, rfl, rfl, HP, HI, hwr⟩ := hrel
    have hwr' := hwr.symm
    subst hwr'
    by_cases hlt : k < n2
    · have hlt' : (k : Int) < n2 := by omega
      obtain ⟨b1, o1, rfl, hc1⟩ := H1.out.at (by omega)
      obtain ⟨b2, o2, rfl, hc2⟩ := H2.out.at (by omega)
      have d1 := hc1 k hlt
      have d2 := hc2 k hlt
      clear hc1 hc2
      have hr1 := H1.out.rng k
      have hbd := plN_bd HG1.out (k := k) (by rw [L1.out]; omega) HI.out
      have hp1 := pr_le s HG1.out k
      have hp2 := pm_all s k
      have hp3 := pr_le s HG1.out (k + 1)
      have hp4 := pm_all s (k + 1)
      have hp5 := (pm_up s k).2.2
      have hg0 := HG1.out k
      have hbd2 : (t.getD k 0 < s.getD k 0 ∧ 0 ≤ t.getD k 0) → 0 ≤ P * s.getD k 0 ∧ P * s.getD k 0 + t.getD k 0 < pr (s.take (k + 1)) := by
        rintro ⟨h3, h4⟩
        have h := plN_bd HG1.out (k := k + 1) (by rw [L1.out]; omega) (fun i hi => by
          by_cases e : i = k
          · subst e; exact ⟨h4, h3⟩
          · exact HI.out i (by omega))
        simp only [plN, HP.out] at h
        have h5 : 0 ≤ plN s t k * s.getD k 0 := Int.mul_nonneg hbd.1 hg0
        rw [HP.out] at h5
        exact ⟨h5, h.2⟩
      obtain ⟨x, HX⟩ : ∃ x, Hid (s.getD k 0 = x) := ⟨_, rfl⟩
      obtain ⟨y, HY⟩ : ∃ y, Hid (t.getD k 0 = y) := ⟨_, rfl⟩
      rw [HX.out] at d1
      rw [HY.out] at d2
      rw [HX.out, HY.out] at hbd2
      have hg3 := HG3.out
      by_cases hy : 0 ≤ y ∧ y < x
      · obtain ⟨hy1, hy2⟩ := hy
        obtain ⟨hz1, hz2⟩ := hbd2 ⟨hy2, hy1⟩
        have z1 : IntKind.i64.wrap (P * x) = P * x := IntWalk.i64_in _ (by omega)
        have z2 : IntKind.i64.wrap (P * x + y) = P * x + y := IntWalk.i64_in _ (by omega)
        have HP2 : Hid (plN s t (k + 1) = P * x + y) := by show _ = _; simp only [plN, HP.out, HX.out, HY.out]
        have HI2 : Hid (inR s t (k + 1)) := fun i hi => by
          by_cases e : i = k
          · subst e; rw [HX.out, HY.out]; exact ⟨hy1, hy2⟩
          · exact HI.out i (by omega)
        have y1 : decide (y < 0) = false := by simpa using hy1
        have y2 : decide (x ≤ y) = false := by simpa using hy2
        clear hbd hp1 hp2 hp3 hp4 hp5 hg0 hbd2 hg3 hr1 hz1 hz2
        go_wp2
        go_roundw
        case rel => exact ⟨k + 1, _, by omega, by go_num, rfl, HP2, HI2, by first | rfl | trivial⟩
        case measure => simp [RowKit.intOf]; omega
      · have hni : ¬ inR s t s.length := fun h => by
          have h3 := h k (by rw [L1.out]; exact hlt)
          rw [HX.out, HY.out] at h3
          exact hy h3
        obtain rfl : v = 0 := by rw [← HV.out]; simp [plV, hni]
        obtain rfl : e = 13 := by rw [← HE.out]; simp [plE, HM.out, HL.out, hni]
        clear hbd hp1 hp2 hp3 hp4 hp5 hg0 hbd2 hg3 hr1 hni
        by_cases hy0 : y < 0
        · go_wp2
          go_ret2
          exact RetS.mk rfl
        · have hyx : x ≤ y := by omega
          go_wp2
          go_ret2
          exact RetS.mk rfl
    · obtain rfl : k = n2 := by omega
      have hge : (k : Int) ≤ k := Int.le_refl _
      have hI := HI.out
      rw [← L1.out] at hI
      have hP := HP.out
      rw [← L1.out] at hP
      obtain rfl : v = P := by rw [← HV.out, ← hP]; simp [plV, HM.out, HL.out, hI]
      obtain rfl : e = 0 := by rw [← HE.out]; simp [plE, HM.out, HL.out, hI]
      clear hI hP
      go_wp2
      go_ret2
      exact RetS.mk rfl
end Go.Proofs.Ytdedbfbkakofgaa

namespace Go.Proofs.Ytdedbfbkakofgaa
open Go.RowKit Go.Lib
set_option linter.unusedVariables false
set_option linter.unusedSimpArgs false
attribute [local go_sem] alloc_drewN setCell_drewN

/-- The call hands back a row of its own that reads as zs. -/
def MadeL (w : World) (zs : List Int) (e : Ending) (w' : World) : Prop :=
  ∃ ao n c, e = .returned (.slice ao n c) ∧ Ls w' ao n c zs ∧ w'.ownsRow w.heap.size 3 1 (.slice ao n c) n (zs.map (Value.int .i64)) ∧ Below w.heap.size w w'
/-- The same, and an error number. -/
def MadeS (w : World) (zs : List Int) (err : Int) (e : Ending) (w' : World) : Prop :=
  ∃ ao n c, e = .returned (.tuple #[.slice ao n c, .int .i64 err]) ∧ Ls w' ao n c zs ∧ w'.ownsRow w.heap.size 3 1 (.slice ao n c) n (zs.map (Value.int .i64)) ∧ Below w.heap.size w w'
theorem MadeS.nil {w w' : World} (err : Int) (h : Below w.heap.size w w') : MadeS w [] err (.returned (.tuple #[.slice none 0 0, .int .i64 err])) w' :=
  ⟨none, 0, 0, rfl, Ls.zero _ _ (Nat.zero_le _), World.ownsRow_nil _ _ _ _, h⟩
/-- The indices of a place. -/
def ixL (s : List Int) (p : Int) : List Int := (List.range s.length).map fun i => (p / pr (s.drop (i + 1))) % s.getD i 0
theorem ixL_len (s : List Int) (p : Int) : (ixL s p).length = s.length := by simp [ixL]
theorem ixL_at {s : List Int} {p : Int} {k : Nat} (h : k < s.length) : (ixL s p).getD k 0 = (p / pr (s.drop (k + 1))) % s.getD k 0 := by
  simp [ixL, List.getD, h]
theorem pr_drop {s : List Int} {k : Nat} (h : k < s.length) : pr (s.drop k) = s.getD k 0 * pr (s.drop (k + 1)) := by
  rw [List.drop_eq_getElem_cons h, pr_cons]; simp [List.getD, List.getElem?_eq_getElem h]
theorem pos_all : ∀ {s : List Int}, (∀ i, 0 ≤ s.getD i 0) → 0 < pr s → ∀ i, i < s.length → 1 ≤ s.getD i 0
  | [], _, _, i, hi => absurd hi (by simp)
  | x :: xs, h0, hp, i, hi => by
    rw [pr_cons] at hp
    have hx : 0 ≤ x := by simpa using h0 0
    have hxs : ∀ i, 0 ≤ xs.getD i 0 := fun i => by have := h0 (i + 1); simpa [List.getD] using this
    have h1 : x ≠ 0 := by rintro rfl; simp at hp
    have h2 : 0 < pr xs := by
      have h3 := (pr_le xs hxs xs.length).1
      rw [List.take_length] at h3
      rcases Int.lt_or_eq_of_le h3 with h4 | h4
      · exact h4
      · rw [← h4] at hp; simp at hp
    cases i with
    | zero => simp; omega
    | succ i => have := pos_all hxs h2 i (by simpa using hi); simpa [List.getD] using this
theorem pr_drop_pos {s : List Int} (h : ∀ i, i < s.length → 1 ≤ s.getD i 0) (k : Nat) : 1 ≤ pr (s.drop k) := by
  rcases Nat.lt_or_ge k s.length with hk | hk
  · rw [pr_drop hk]
    have h1 := pr_drop_pos h (k + 1)
    have h2 := h k hk
    exact (le_mul1 h2 h1).1 |> fun h3 => by omega
  · rw [List.drop_of_length_le hk]; simp [pr]
termination_by s.length - k
theorem ixL_rng {s : List Int} {p : Int} (h : ∀ i, i < s.length → 1 ≤ s.getD i 0) (i : Nat) (hi : i < s.length) : 0 ≤ (ixL s p).getD i 0 ∧ (ixL s p).getD i 0 < s.getD i 0 := by
  rw [ixL_at hi]
  have := h i hi
  exact ⟨Int.emod_nonneg _ (by omega), Int.emod_lt_of_pos _ (by omega)⟩
theorem set_ix {L : List Int} {k : Nat} (h : k < L.length) : (List.replicate (k + 1) (0 : Int) ++ L.drop (k + 1)).set k (L.getD k 0) = List.replicate k 0 ++ L.drop k := by
  rw [List.set_append_left _ _ (by simp), List.drop_eq_getElem_cons h, List.replicate_succ' (n := k), List.set_append_right _ _ (by simp)]
  simp [List.getD, List.getElem?_eq_getElem h]
set_option maxRecDepth 100000 in
set_option maxHeartbeats 800000 in
theorem indices_any {w : World} {ao : Option Addr} {n c : Nat} {s : List Int} (h : Ls w ao n c s) (p : Int) (hp : 0 ≤ p ∧ p ≤ 1000000) (hn : n ≤ 1000) (hs : ∀ i, i < s.length → 1 ≤ s.getD i 0) :
    Calls Try.prog 89 #[.slice ao n c, .int .i64 p] w (MadeL w (ixL s p)) := by
  have hmk := fun w => mk_int n (by omega) w
  have hl := h.len
  have HO0 := Lib.hid (own_zeros w 3 n w.heap.size (by omega) (Nat.le_refl _))
  have H := Lib.hid h
  have HS := Lib.hid hs
  have HL := Lib.hid hl
  have z0 : IntKind.i64.wrap ((n : Int) - 1) = n - 1 := IntWalk.i64_in _ (by omega)
  clear h hs hl
  go_enter Try.func89, Try.ntmps89
  go_wp2_with fail
  go_loopw [1, 6] (fun q i wr => ∃ (k : Nat) (Q : Int), k ≤ n ∧ i = .int .i64 ((k : Int) - 1) ∧ q = .int .i64 Q ∧ Hid (p / pr (s.drop k) = Q) ∧ Hid (wr.ownsRow w.heap.size 3 1 (.slice (some ⟨w.heap.size, 0, none⟩) n n) n ((List.replicate k (0 : Int) ++ (ixL s p).drop k).map (Value.int .i64))) ∧ Hid (Below w.heap.size w wr)) (fun _ i _ => (RowKit.intOf i + 1).toNat)
  case atStart =>
    refine ⟨n, p, Nat.le_refl _, rfl, rfl, ?_, ?_, (Below.refl _ _).alloc (Nat.le_refl _) _⟩
    · show _ = _; rw [List.drop_of_length_le (by rw [HL.out]; omega)]; simp [pr]
    · rw [List.drop_of_length_le (by rw [ixL_len, HL.out]; omega), List.append_nil]; exact HO0
  case round =>
    obtain ⟨k, Q, hk, rfl, rfl, HQ, HO, HB⟩ := hrel
    by_cases h0 : 0 < k
    · obtain ⟨j, rfl⟩ : ∃ j, k = j + 1 := ⟨k - 1, by omega⟩
      have e0 : ((j + 1 : Nat) : Int) - 1 = j := by omega
      rw [e0]
      have hj : j < n := by omega
      have hj' : (j : Int) < n := by omega
      have hL := H.out.below HB.out (Nat.le_refl _)
      obtain ⟨b1, o1, rfl, hb1, hc1⟩ := H.out.mem (by omega)
      have d1 := (HB.out.cell (p := ⟨b1, o1 + j, none⟩) hb1).trans (hc1 j hj)
      have d4 : (wr.setCell ⟨w.heap.size, j, none⟩ (.int .i64 ((ixL s p).getD j 0))).cell? ⟨b1, o1 + j, none⟩ = some (.int .i64 (s.getD j 0)) := by
        rw [World.cell?_setCell_far _ _ _ _ (by dsimp only; omega)]; exact d1
      have d2 : ∃ v, wr.cell? ⟨w.heap.size, j, none⟩ = some v := by
        rw [HO.out.cellAt j (by omega)]
        exact ⟨_, List.getElem?_eq_getElem (by have := HO.out.1; rw [this]; omega)⟩
      obtain ⟨v0, d2⟩ := d2
      have d3 := HO.out.frozenAt j
      have hx1 := HS.out j (by rw [HL.out]; omega)
      have hx2 := (hL.rng j).2
      have hq1 : 0 ≤ Q := by rw [← HQ.out]; exact Int.ediv_nonneg hp.1 (by have := pr_drop_pos HS.out (j + 1); omega)
      have hq2 : Q ≤ 1000000 := by rw [← HQ.out]; exact Int.le_trans (Int.ediv_le_self _ hp.1) hp.2
      have hix := ixL_at (s := s) (p := p) (k := j) (by rw [HL.out]; omega)
      rw [HQ.out] at hix
      have hq3 : p / pr (s.drop j) = Q / s.getD j 0 := by
        rw [pr_drop (by rw [HL.out]; omega), Int.mul_comm]
        have hd := Int.ediv_ediv (x := p) (y := pr (s.drop (j + 1))) (z := s.getD j 0)
        rw [if_neg (by have := pr_drop_pos HS.out (j + 1); omega), Int.sub_zero, HQ.out] at hd
        exact hd.symm
      have HO2 := Lib.hid ((HO.out.stored j (.int .i64 ((ixL s p).getD j 0))).1)
      have hset := set_ix (L := ixL s p) (k := j) (by rw [ixL_len, HL.out]; omega)
      rw [← List.map_set, hset] at HO2
      obtain ⟨x, HX⟩ : ∃ x, Hid (s.getD j 0 = x) := ⟨_, rfl⟩
      obtain ⟨y, HY⟩ : ∃ y, Hid ((ixL s p).getD j 0 = y) := ⟨_, rfl⟩
      rw [HX.out] at d1 d4 hx1 hx2 hix hq3
      rw [HY.out] at hix HO2 d4
      have m1 : Q.tmod x = y := by rw [hix, Int.tmod_eq_emod_of_nonneg hq1]
      have m2 : Q.tdiv x = Q / x := Int.tdiv_eq_ediv_of_nonneg hq1
      have m3 : 0 ≤ Q / x ∧ Q / x ≤ Q := ⟨Int.ediv_nonneg hq1 (by omega), Int.ediv_le_self _ hq1⟩
      have m4 : 0 ≤ y ∧ y < x := by rw [hix]; exact ⟨Int.emod_nonneg _ (by omega), Int.emod_lt_of_pos _ (by omega)⟩
      obtain ⟨Q2, HQ2⟩ : ∃ Q2, Hid (Q / x = Q2) := ⟨_, rfl⟩
      rw [HQ2.out] at m2 m3 hq3
      have HQ3 := Lib.hid hq3
      have m5 : IntKind.i64.wrap y = y := IntWalk.i64_in _ (by omega)
      have m6 : IntKind.i64.wrap Q2 = Q2 := IntWalk.i64_in _ (by omega)
      have m7 : (x == 0) = false := by simp; omega
      have m8 : ¬ x = 0 := by omega
      have m9 : IntKind.i64.wrap ((j : Int) - 1) = j - 1 := IntWalk.i64_in _ (by omega)
      have HB2 := Lib.hid (HB.out.setCell (show w.heap.size ≤ (⟨w.heap.size, j, none⟩ : Addr).block from Nat.le_refl _) (.int .i64 y))
      clear hL hc1 hb1 hx1 hx2 hq1 hq2 hix hq3 hset m3 m4 HX HY
      go_wp2
      go_roundw
      case rel => exact ⟨j, Q2, by omega, rfl, rfl, HQ3, HO2, HB2⟩
      case measure => simp [RowKit.intOf]
    · obtain rfl : k = 0 := by omega
      have hout := HO.out
      simp only [List.replicate_zero, List.nil_append, List.drop_zero] at hout
      have HF : Hid (MadeL w (ixL s p) (.returned (.slice (some ⟨w.heap.size, 0, none⟩) n n)) wr) := by
        refine ⟨_, _, _, rfl, ls_of_own hout (by omega) (fun i => ?_), hout, HB.out⟩
        by_cases hi : i < s.length
        · have h1 := ixL_rng (p := p) HS.out i hi
          have h2 := (H.out.rng i).2
          omega
        · rw [show (ixL s p).getD i 0 = 0 by simp [List.getD, ixL, hi]]; omega
      clear hout
      go_wp2
      go_ret
      exact HF.out
def atL (s : List Int) (p : Int) : List Int := if mayE s = 0 ∧ 0 ≤ p ∧ p < pr s then ixL s p else []
def atE (s : List Int) (p : Int) : Int := if mayE s = 0 then if 0 ≤ p ∧ p < pr s then 0 else 13 else mayE s
set_option maxRecDepth 100000 in
set_option maxHeartbeats 400000 in
theorem at_any {w : World} {ao : Option Addr} {n c : Nat} {s : List Int} (h : Ls w ao n c s) (p : Int) :
    Calls Try.prog 43 #[.slice ao n c, .int .i64 p] w (MadeS w (atL s p) (atE s p)) := by
  have CZ := Lib.hid (size_any h)
  by_cases hm : ¬ mayE s = 0
  · rw [show atL s p = [] by simp [atL, hm], show atE s p = mayE s by simp [atE, hm]]
    obtain ⟨e, he⟩ : ∃ v, mayE s = v := ⟨_, rfl⟩
    rw [he] at CZ hm ⊢
    have hm' : (e != 0) = true := by simpa using hm
    clear h he hm
    go_enter Try.func43, Try.ntmps43
    go_wp2_with fail
    refine CZ.out.mono ?_; rintro e' w' ⟨rfl, rfl⟩
    go_wp2
    go_ret2
    exact MadeS.nil _ (Below.refl _ _)
  have hm : mayE s = 0 := by simpa using hm
  have hz : szE s = pr s := by simp [szE, hm]
  rw [hm, hz] at CZ
  obtain ⟨g1, g2, g3⟩ := mayE_zero hm
  have hpb := pr_le s g1 s.length
  rw [List.take_length] at hpb
  have hlen := h.len
  by_cases hp : 0 ≤ p ∧ p < pr s
  · rw [show atL s p = ixL s p by simp [atL, hm, hp], show atE s p = 0 by simp [atE, hm, hp]]
    have CI := Lib.hid (fun w' (hb : Below w.heap.size w w') => indices_any (h.below hb (Nat.le_refl _)) p ⟨hp.1, by omega⟩ (by omega) (pos_all g1 (by omega)))
    obtain ⟨P, HP⟩ : ∃ P, Hid (pr s = P) := ⟨_, rfl⟩
    rw [HP.out] at CZ hp
    obtain ⟨hp1, hp2⟩ := hp
    clear h hm hz g1 g2 g3 hpb hlen
    go_enter Try.func43, Try.ntmps43
    go_wp2_with fail
    refine CZ.out.mono ?_; rintro e' w' ⟨rfl, rfl⟩
    go_wp2_with fail
    refine (CI.out _ (Below.refl _ _)).mono ?_; rintro e' w2 ⟨ao', n', c', rfl, hL, hO, hB⟩
    have HF : Hid (MadeS w' (ixL s p) 0 (.returned (.tuple #[.slice ao' n' c', .int .i64 0])) w2) := ⟨_, _, _, rfl, hL, hO, hB⟩
    clear hL hO hB
    go_wp2
    go_ret2
    exact HF.out
  · rw [show atL s p = [] by simp [atL, hp], show atE s p = 13 by simp [atE, hm, hp]]
    obtain ⟨P, HP⟩ : ∃ P, Hid (pr s = P) := ⟨_, rfl⟩
    rw [HP.out] at CZ hp
    clear h hm hz g1 g2 g3 hpb hlen
    by_cases h0 : p < 0
    · go_enter Try.func43, Try.ntmps43
      go_wp2_with fail
      refine CZ.out.mono ?_; rintro e' w' ⟨rfl, rfl⟩
      go_wp2
      go_ret2
      exact MadeS.nil _ (Below.refl _ _)
    · have h1 : P ≤ p := by omega
      go_enter Try.func43, Try.ntmps43
      go_wp2_with fail
      refine CZ.out.mono ?_; rintro e' w' ⟨rfl, rfl⟩
      go_wp2
      go_ret2
      exact MadeS.nil _ (Below.refl _ _)
end Go.Proofs.Ytdedbfbkakofgaa

/- The walk of the statement on comparisons. -/
import Derived.Test.YtkgakpofophhjaaNumBegun
namespace Go.Proofs.Ytkgakpofophhjaa
open Go.RowKit
set_option linter.unusedVariables false
set_option linter.unusedSimpArgs false
/-- What the eight verbs tell of two numbers. -/
def Eight (x y a b c d e f p q : Int) : Prop :=
  dyV 8 x y = a ∧ dyV 10 x y = b ∧ dyV 9 x y = c ∧ dyV 12 x y = d ∧ dyV 13 x y = e ∧ dyV 11 x y = f ∧ dyV 6 x y = p ∧ dyV 7 x y = q
theorem eight_lt {x y : Int} (h : x < y) : Eight x y 1 0 0 1 0 1 x y := by
  refine ⟨?_, ?_, ?_, ?_, ?_, ?_, ?_, ?_⟩ <;> simp [dyV, bit] <;> omega
theorem eight_eq (x : Int) : Eight x x 0 1 0 1 1 0 x x := by
  refine ⟨?_, ?_, ?_, ?_, ?_, ?_, ?_, ?_⟩ <;> simp [dyV, bit]
theorem eight_gt {x y : Int} (h : y < x) : Eight x y 0 0 1 0 1 1 y x := by
  refine ⟨?_, ?_, ?_, ?_, ?_, ?_, ?_, ?_⟩ <;> simp [dyV, bit] <;> omega
theorem eight_err (x y : Int) : dyE 8 x y = 0 ∧ dyE 10 x y = 0 ∧ dyE 9 x y = 0 ∧ dyE 12 x y = 0 ∧ dyE 13 x y = 0 ∧ dyE 11 x y = 0 ∧ dyE 6 x y = 0 ∧ dyE 7 x y = 0 := by
  refine ⟨?_, ?_, ?_, ?_, ?_, ?_, ?_, ?_⟩ <;> simp [dyE]
theorem alloc_drewN (W : World) (n : Nat) (o : Obj) : (W.drewN n).alloc o = (W.alloc o).drewN n := rfl
theorem setCell_drewN (W : World) (n : Nat) (a : Addr) (v : Value) : (W.drewN n).setCell a v = (W.setCell a v).drewN n := rfl
attribute [local go_sem] alloc_drewN setCell_drewN
theorem grown_two (w : World) (A B : Array Value) (t u : TypeId) (n : Nat) : Grown w (((w.alloc (.cells A t)).alloc (.cells B u)).drewN n) :=
  Grown.alloc (Grown.alloc (Grown.refl w) A t) B u
set_option maxRecDepth 100000 in
set_option maxHeartbeats 2000000 in
theorem walkNumOrder (x y : Int) (hx : -9223372036854775808 ≤ x ∧ x ≤ 9223372036854775807) (hy : -9223372036854775808 ≤ y ∧ y ≤ 9223372036854775807) (w : World) :
    Calls Try.prog 9 #[.int .i64 x, .int .i64 y] w (RetG w (.bool true)) := by
  obtain ⟨z1, z2, z3, z4, z5, z6, z7, z8⟩ := eight_err x y
  have HX := Lib.hid hx
  have HY := Lib.hid hy
  by_cases h : x < y
  · obtain ⟨v1, v2, v3, v4, v5, v6, v7, v8⟩ := eight_lt h
    have g1 : (x == y) = false := by simp; omega
    go_enter Try.func9, Try.ntmps9
    go_wp2_with fail
    refine (begun_any _).mono ?_; rintro e w' ⟨rfl, n0, rfl⟩
    go_wp2_with fail
    refine wp_loop_rounds 9 ?_
    iterate 9
      rw [rounds_succ]
      go_wp2_with (first | (go_at_call 17; refine (dyad_any _ _ _ _ HX.out HY.out).mono ?_; rintro e w' ⟨rfl, n1, rfl⟩))
    refine wp_loop_rounds 7 ?_
    iterate 7
      rw [rounds_succ]
      go_wp2
    go_ret
    exact RetG.mk rfl (grown_two w _ _ _ _ _)
  by_cases h' : x = y
  · subst h'
    obtain ⟨v1, v2, v3, v4, v5, v6, v7, v8⟩ := eight_eq x
    go_enter Try.func9, Try.ntmps9
    go_wp2_with fail
    refine (begun_any _).mono ?_; rintro e w' ⟨rfl, n0, rfl⟩
    go_wp2_with fail
    refine wp_loop_rounds 9 ?_
    iterate 9
      rw [rounds_succ]
      go_wp2_with (first | (go_at_call 17; refine (dyad_any _ _ _ _ HX.out HY.out).mono ?_; rintro e w' ⟨rfl, n1, rfl⟩))
    refine wp_loop_rounds 7 ?_
    iterate 7
      rw [rounds_succ]
      go_wp2
    go_ret
    exact RetG.mk rfl (grown_two w _ _ _ _ _)
  · obtain ⟨v1, v2, v3, v4, v5, v6, v7, v8⟩ := eight_gt (x := x) (y := y) (by omega)
    have g1 : (x == y) = false := by simp; omega
    have g2 : (y == x) = false := by simp; omega
    have g3 : y < x := by omega
    go_enter Try.func9, Try.ntmps9
    go_wp2_with fail
    refine (begun_any _).mono ?_; rintro e w' ⟨rfl, n0, rfl⟩
    go_wp2_with fail
    refine wp_loop_rounds 9 ?_
    iterate 9
      rw [rounds_succ]
      go_wp2_with (first | (go_at_call 17; refine (dyad_any _ _ _ _ HX.out HY.out).mono ?_; rintro e w' ⟨rfl, n1, rfl⟩))
    refine wp_loop_rounds 7 ?_
    iterate 7
      rw [rounds_succ]
      go_wp2
    go_ret
    exact RetG.mk rfl (grown_two w _ _ _ _ _)
end Go.Proofs.Ytkgakpofophhjaa

/- What every statement of the layer asks ahead: begun. And what a law's walk ends in. -/
import Derived.Test.YtkgakpofophhjaaNumCalls
namespace Go.Proofs.Ytkgakpofophhjaa
open Go.RowKit
set_option linter.unusedVariables false
set_option linter.unusedSimpArgs false

/-- The call hands back v; at most new blocks are laid. -/
def RetG (w : World) (v : Value) (e : Ending) (w' : World) : Prop := e = .returned v ∧ Grown w w'
theorem grown_drewN (w : World) (n : Nat) : Grown w (w.drewN n) := Grown.refl w
theorem RetG.mk {w w' : World} {v v' : Value} (h : v' = v) (hg : Grown w w') : RetG w v (.returned v') w' := ⟨by rw [h], hg⟩
theorem Ret.toG {w : World} {v : Value} {e : Ending} {w' : World} (h : Ret w v e w') : RetG w v e w' := by
  obtain ⟨h1, n, rfl⟩ := h; exact ⟨h1, grown_drewN _ _⟩
theorem boolv {a b : Bool} (h : a = b) : Value.bool a = Value.bool b := by rw [h]
theorem rng64 {a : Int} (h : (Lit.int .i64 a).wf = true) : -9223372036854775808 ≤ a ∧ a ≤ 9223372036854775807 := by
  simp [Lit.wf, IntKind.min, IntKind.max, IntKind.signed, IntKind.bits] at h; omega
theorem rng32 {a : Int} (h : (Lit.int .i32 a).wf = true) : -2147483648 ≤ a ∧ a ≤ 2147483647 := by
  simp [Lit.wf, IntKind.min, IntKind.max, IntKind.signed, IntKind.bits] at h; omega
theorem rngu8 {a : Int} (h : (Lit.int .u8 a).wf = true) : 0 ≤ a ∧ a ≤ 255 := by
  simp [Lit.wf, IntKind.min, IntKind.max, IntKind.signed, IntKind.bits] at h; omega
/-- A dyad's contract at values that are known. -/
theorem dyad_at {op x y v e : Int} (w : World) (hx : -9223372036854775808 ≤ x ∧ x ≤ 9223372036854775807) (hy : -9223372036854775808 ≤ y ∧ y ≤ 9223372036854775807) (hv : dyV op x y = v) (he : dyE op x y = e) :
    Calls Try.prog 17 #[.int .i64 op, .int .i64 x, .int .i64 y] w (Ret w (.tuple #[.int .i64 v, .int .i64 e])) := by
  rw [← hv, ← he]; exact dyad_any op x y w hx hy
theorem monad_at {op y v e : Int} (w : World) (hy : -9223372036854775808 ≤ y ∧ y ≤ 9223372036854775807) (hv : moV op y = v) (he : moE op y = e) :
    Calls Try.prog 19 #[.int .i64 op, .int .i64 y] w (Ret w (.tuple #[.int .i64 v, .int .i64 e])) := by
  rw [← hv, ← he]; exact monad_any op y w hy
theorem add_at {x y v : Int} {b : Bool} (w : World) (hx : -9223372036854775808 ≤ x ∧ x ≤ 9223372036854775807) (hy : -9223372036854775808 ≤ y ∧ y ≤ 9223372036854775807) (hv : val (x + y) = v) (he : fit (x + y) = b) :
    Calls Try.prog 21 #[.int .i64 x, .int .i64 y] w (Ret w (.tuple #[.int .i64 v, .bool b])) := by
  rw [← hv, ← he]; exact add_any x y w hx hy
theorem mul_at {x y v : Int} {b : Bool} (w : World) (hx : -9223372036854775808 ≤ x ∧ x ≤ 9223372036854775807) (hy : -9223372036854775808 ≤ y ∧ y ≤ 9223372036854775807) (hv : val (x * y) = v) (he : fit (x * y) = b) :
    Calls Try.prog 20 #[.int .i64 x, .int .i64 y] w (Ret w (.tuple #[.int .i64 v, .bool b])) := by
  rw [← hv, ← he]; exact mul_any x y w hx hy
set_option maxRecDepth 100000 in
set_option maxHeartbeats 400000 in
theorem begun_any (w : World) : Calls Try.prog 11 #[] w (Ret w (.bool true)) := by
  have a1 := fun w => add_at (x := 2147483647) (y := 1) (v := 2147483648) (b := true) w (by omega) (by omega) (by decide) (by decide)
  have a2 := fun w => dyad_at (op := 4) (x := -7) (y := 2) (v := -4) (e := 0) w (by omega) (by omega) (by decide) (by decide)
  have a3 := fun w => dyad_at (op := 21) (x := 2) (y := 5) (v := 10) (e := 0) w (by omega) (by omega) (by decide) (by decide)
  have a4 := fun w => monad_at (op := 4) (y := 3) (v := 0) (e := 16) w (by omega) (by decide) (by decide)
  have a5 := fun w => monad_at (op := 2) (y := -9223372036854775808) (v := 0) (e := 14) w (by omega) (by decide) (by decide)
  have A1 := Lib.hid a1
  have A2 := Lib.hid a2
  have A3 := Lib.hid a3
  have A4 := Lib.hid a4
  have A5 := Lib.hid a5
  clear a1 a2 a3 a4 a5
  go_enter Try.func11, Try.ntmps11
  go_wp2_with fail
  refine (A1.out _).mono ?_; rintro e w' ⟨rfl, n1, rfl⟩
  go_wp2_with fail
  refine (A2.out _).mono ?_; rintro e w' ⟨rfl, n1, rfl⟩
  go_wp2_with fail
  refine (A3.out _).mono ?_; rintro e w' ⟨rfl, n1, rfl⟩
  go_wp2_with fail
  refine (A4.out _).mono ?_; rintro e w' ⟨rfl, n1, rfl⟩
  go_wp2_with fail
  refine (A5.out _).mono ?_; rintro e w' ⟨rfl, n1, rfl⟩
  go_wp2
  go_ret
  exact Ret.mk _ rfl
end Go.Proofs.Ytkgakpofophhjaa

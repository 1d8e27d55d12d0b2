/- Contracts of the reference's quotients, factorials, powers and choices. -/
import Derived.Test.YtkgakpofophhjaaNumRef1
namespace Go.Proofs.Ytkgakpofophhjaa
open Go.RowKit
set_option linter.unusedVariables false
set_option linter.unusedSimpArgs false

/-- The quotient of two sizes, up where something is left and the signs part. -/
def upq (b : Bool) (m n : Nat) : Nat := if b && (m % n != 0) then m / n + 1 else m / n
theorem upq_sg {x y : Int} (h0 : ¬ y = 0) : sg (decide (x < 0) != decide (y < 0)) (upq (decide (x < 0) != decide (y < 0)) x.natAbs y.natAbs) = x.fdiv y ∧
    (let m := x.natAbs % y.natAbs; x.fmod y = (if y < 0 then -((if m ≠ 0 ∧ ((decide (y < 0)) != (decide (x < 0))) = true then y.natAbs - m else m : Nat) : Int) else ((if m ≠ 0 ∧ ((decide (y < 0)) != (decide (x < 0))) = true then y.natAbs - m else m : Nat) : Int))) := by
  have hdm := Nat.div_add_mod x.natAbs y.natAbs
  have hml := Nat.mod_lt x.natAbs (show 0 < y.natAbs by omega)
  unfold upq
  generalize hk : x.natAbs / y.natAbs = k at *
  generalize hm : x.natAbs % y.natAbs = m at *
  have hyk : (y.natAbs : Int) * (k : Int) + m = x.natAbs := by rw [← hdm]; simp
  by_cases hx : x < 0 <;> by_cases hy : y < 0 <;> by_cases hz : m = 0
  all_goals simp only [hx, hy, hz, decide_true, decide_false, bne_self_eq_false, Bool.false_and, Bool.true_and, ne_eq, not_true_eq_false, false_and, if_false, if_true, sg, not_false_eq_true, true_and]
  all_goals (try simp only [show (true != false) = true from rfl, show (false != true) = true from rfl, Bool.true_and, if_true, show (0 != 0) = false from rfl, Bool.false_eq_true, if_false])
  · have e : y * (k : Int) = -((y.natAbs : Int) * k) := by rw [← Int.neg_mul]; congr 1; omega
    have := fdiv_of (a := x) (b := y) (q := (k : Int)) (r := 0) h0 (by omega) (by omega) (by omega)
    exact ⟨this.1.symm, by rw [this.2]; rfl⟩
  · have e : y * (k : Int) = -((y.natAbs : Int) * k) := by rw [← Int.neg_mul]; congr 1; omega
    have := fdiv_of (a := x) (b := y) (q := (k : Int)) (r := -(m : Int)) h0 (by omega) (by omega) (by omega)
    exact ⟨this.1.symm, by rw [this.2]⟩
  · have e : y * (-(k : Int)) = -((y.natAbs : Int) * k) := by rw [Int.mul_neg]; congr 2; omega
    have := fdiv_of (a := x) (b := y) (q := -(k : Int)) (r := 0) h0 (by omega) (by omega) (by omega)
    exact ⟨this.1.symm, by rw [this.2]; rfl⟩
  · have hz' : (m != 0) = true := by simpa using hz
    simp only [hz', if_true]
    have e : y * (-((k + 1 : Nat) : Int)) = -((y.natAbs : Int) * k) - y := by
      rw [Int.mul_neg, Int.natCast_add, Int.mul_add]
      have : y * (k : Int) = (y.natAbs : Int) * k := by congr 1; omega
      rw [this]; simp; omega
    have := fdiv_of (a := x) (b := y) (q := -((k + 1 : Nat) : Int)) (r := ((y.natAbs - m : Nat) : Int)) h0 (by omega) (by omega) (by omega)
    exact ⟨this.1.symm, this.2⟩
  · have e : y * (-(k : Int)) = ((y.natAbs : Int) * k) := by rw [Int.mul_neg, ← Int.neg_mul]; congr 1; omega
    have := fdiv_of (a := x) (b := y) (q := -(k : Int)) (r := 0) h0 (by omega) (by omega) (by omega)
    exact ⟨this.1.symm, by rw [this.2]; rfl⟩
  · have hz' : (m != 0) = true := by simpa using hz
    simp only [hz', if_true]
    have e : y * (-((k + 1 : Nat) : Int)) = ((y.natAbs : Int) * k) - y := by
      rw [Int.natCast_add, Int.mul_neg, ← Int.neg_mul, Int.mul_add]
      have : -y * (k : Int) = (y.natAbs : Int) * k := by congr 1; omega
      rw [this]; simp; omega
    have := fdiv_of (a := x) (b := y) (q := -((k + 1 : Nat) : Int)) (r := -((y.natAbs - m : Nat) : Int)) h0 (by omega) (by omega) (by omega)
    exact ⟨this.1.symm, this.2⟩
  · have e : y * (k : Int) = ((y.natAbs : Int) * k) := by congr 1; omega
    have := fdiv_of (a := x) (b := y) (q := (k : Int)) (r := 0) h0 (by omega) (by omega) (by omega)
    exact ⟨this.1.symm, by rw [this.2]; rfl⟩
  · have e : y * (k : Int) = ((y.natAbs : Int) * k) := by congr 1; omega
    have := fdiv_of (a := x) (b := y) (q := (k : Int)) (r := (m : Int)) h0 (by omega) (by omega) (by omega)
    exact ⟨this.1.symm, this.2⟩
end Go.Proofs.Ytkgakpofophhjaa

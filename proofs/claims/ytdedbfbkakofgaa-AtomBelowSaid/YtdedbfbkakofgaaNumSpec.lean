/- What num.Monad and num.Dyad tell, by the verb's number: no program in sight. -/
import Derived.Test.YtdedbfbkakofgaaNumWaysPlain
namespace Go.Proofs.Ytdedbfbkakofgaa
open Go.RowKit
set_option linter.unusedVariables false
set_option linter.unusedSimpArgs false

def sgn (y : Int) : Int := if y < 0 then -1 else if 0 < y then 1 else 0
def halfV (y : Int) : Int := if y % 2 = 0 then y / 2 else 0
def halfE (y : Int) : Int := if y % 2 = 0 then 0 else 10
/-- The value and the error of a monad. -/
def moV (op y : Int) : Int :=
  if op = 1 ∨ op = 6 ∨ op = 7 then y else if op = 2 then val (-y) else if op = 3 then sgn y else if op = 5 then val y.natAbs
  else if op = 12 then val (y - 1) else if op = 13 then val (y + 1) else if op = 16 then val (y + y) else if op = 17 then val (y * y)
  else if op = 18 then val (1 - y) else if op = 19 then halfV y else if op = 21 then facV y else 0
def moE (op y : Int) : Int :=
  if op = 1 ∨ op = 6 ∨ op = 7 then 0 else if op = 2 then err (-y) else if op = 3 then 0 else if op = 5 then err y.natAbs
  else if op = 12 then err (y - 1) else if op = 13 then err (y + 1) else if op = 16 then err (y + y) else if op = 17 then err (y * y)
  else if op = 18 then err (1 - y) else if op = 19 then halfE y else if op = 21 then facE y else if 1 ≤ op ∧ op ≤ 21 then 16 else 1
def bitsOk (x y : Int) : Bool := decide ((x = 0 ∨ x = 1) ∧ (y = 0 ∨ y = 1))
/-- The value and the error of a dyad. -/
def dyV (op x y : Int) : Int :=
  if op = 1 then val (x + y) else if op = 2 then val (x - y) else if op = 3 then val (x * y) else if op = 4 then (if y = 0 then 0 else val (x.fdiv y))
  else if op = 5 then (if x = 0 then y else y.fmod x) else if op = 6 then min x y else if op = 7 then max x y
  else if op = 8 then bit (decide (x < y)) else if op = 9 then bit (decide (y < x)) else if op = 10 then bit (x == y) else if op = 11 then bit (x != y)
  else if op = 12 then bit (decide (x ≤ y)) else if op = 13 then bit (decide (y ≤ x)) else if op = 14 then val (Nat.gcd x.natAbs y.natAbs)
  else if op = 15 then val (Nat.lcm x.natAbs y.natAbs) else if op = 16 then (if bitsOk x y then bit (x + y == 0) else 0) else if op = 17 then (if bitsOk x y then bit (decide (x + y < 2)) else 0)
  else if op = 20 then pwV x y else if op = 21 then chV x y else 0
def dyE (op x y : Int) : Int :=
  if op = 1 then err (x + y) else if op = 2 then err (x - y) else if op = 3 then err (x * y) else if op = 4 then (if y = 0 then 10 else err (x.fdiv y))
  else if op = 5 then 0 else if op = 6 then 0 else if op = 7 then 0
  else if 8 ≤ op ∧ op ≤ 13 then 0 else if op = 14 then err (Nat.gcd x.natAbs y.natAbs)
  else if op = 15 then err (Nat.lcm x.natAbs y.natAbs) else if op = 16 ∨ op = 17 then (if bitsOk x y then 0 else 10)
  else if op = 20 then pwE x y else if op = 21 then chE x y else if 1 ≤ op ∧ op ≤ 21 then 16 else 1

theorem mo_row {op y : Int} (h : op = 4 ∨ op = 8 ∨ op = 9 ∨ op = 10 ∨ op = 11 ∨ op = 14 ∨ op = 15 ∨ op = 20) : moV op y = 0 ∧ moE op y = 16 := by
  rcases h with rfl | rfl | rfl | rfl | rfl | rfl | rfl | rfl <;> simp [moV, moE]
theorem mo_out {op y : Int} (h : ¬ (1 ≤ op ∧ op ≤ 21)) : moV op y = 0 ∧ moE op y = 1 := by
  constructor
  · unfold moV; repeat rw [if_neg (by omega)]
  · unfold moE; repeat rw [if_neg (by omega)]
theorem dy_row {op x y : Int} (h : op = 18 ∨ op = 19) : dyV op x y = 0 ∧ dyE op x y = 16 := by
  rcases h with rfl | rfl <;> simp [dyV, dyE]
theorem dy_out {op x y : Int} (h : ¬ (1 ≤ op ∧ op ≤ 21)) : dyV op x y = 0 ∧ dyE op x y = 1 := by
  constructor
  · unfold dyV; repeat rw [if_neg (by omega)]
  · unfold dyE; repeat rw [if_neg (by omega)]
theorem half_even {y : Int} (hy : -9223372036854775808 ≤ y ∧ y ≤ 9223372036854775807) (h : y % 2 = 0) : y.tmod 2 = 0 ∧ y.tdiv 2 = halfV y ∧ (0 : Int) = halfE y ∧ -9223372036854775808 ≤ y.tdiv 2 ∧ y.tdiv 2 ≤ 9223372036854775807 := by
  have h1 := Int.mul_tdiv_add_tmod y 2
  have h2 := tmod_near y 2 (by omega)
  simp only [halfV, halfE, if_pos h]
  exact ⟨by omega, by omega, trivial, by omega, by omega⟩
theorem half_odd {y : Int} (h : ¬ y % 2 = 0) : ¬ y.tmod 2 = 0 ∧ (0 : Int) = halfV y ∧ (10 : Int) = halfE y := by
  have h1 := Int.mul_tdiv_add_tmod y 2
  simp only [halfV, halfE, if_neg h]
  exact ⟨by omega, trivial, trivial⟩
theorem bits_yes {x y : Int} (h : (x = 0 ∨ x = 1) ∧ (y = 0 ∨ y = 1)) : bitsOk x y = true := by simp [bitsOk, h]
theorem bits_no {x y : Int} (h : ¬ ((x = 0 ∨ x = 1) ∧ (y = 0 ∨ y = 1))) : bitsOk x y = false := by
  cases e : bitsOk x y
  · rfl
  · simp only [bitsOk, decide_eq_true_eq] at e; exact absurd e h
theorem u64_big {x : Int} (hx : -9223372036854775808 ≤ x ∧ x ≤ 9223372036854775807) (h : ¬ (x = 0 ∨ x = 1)) : 1 < IntKind.u64.wrap x := by rw [IntKind.wrap_u64]; omega
theorem u64_small {x : Int} (h : x = 0 ∨ x = 1) : IntKind.u64.wrap x ≤ 1 := by rw [IntKind.wrap_u64]; omega
end Go.Proofs.Ytdedbfbkakofgaa

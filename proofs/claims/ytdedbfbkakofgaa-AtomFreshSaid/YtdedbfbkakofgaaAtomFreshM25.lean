/- What every statement of the layer asks ahead: begun. And what a law's walk ends in. Contracts of the reference's sums, products, quotients, powers. Contracts of the reference's quotients, factorials, powers and choices. -/
import Derived.Test.YtdedbfbkakofgaaAtomFreshM21
namespace Go.Proofs.Ytdedbfbkakofgaa
open Go.RowKit
set_option linter.unusedVariables false
set_option linter.unusedSimpArgs false

/-- The call hands back v; at most new blocks are laid. -/
def RetG (w : World) (v : Value) (e : Ending) (w' : World) : Prop := e = .returned v ∧ Grown w w'
theorem grown_drewN (w : World) (n : Nat) : Grown w (w.drewN n) := Grown.refl w
theorem RetG.mk {w w' : World} {v v' : Value} (h : v' = v) (hg : Grown w w') : RetG w v (.returned v') w' := ⟨by rw [h], hg⟩
theorem Ret.toG {w : World} {v : Value} {e : Ending} {w' : World} (h : Ret w v e w') : RetG w v e w' := by
  obtain ⟨h1, n, rfl⟩ := h; exact ⟨h1, grown_drewN _ _⟩
theorem rng64 {a : Int} (h : (Lit.int .i64 a).wf = true) : -9223372036854775808 ≤ a ∧ a ≤ 9223372036854775807 := by
  simp [Lit.wf, IntKind.min, IntKind.max, IntKind.signed, IntKind.bits] at h; omega
theorem rng32 {a : Int} (h : (Lit.int .i32 a).wf = true) : -2147483648 ≤ a ∧ a ≤ 2147483647 := by
  simp [Lit.wf, IntKind.min, IntKind.max, IntKind.signed, IntKind.bits] at h; omega
theorem rngu8 {a : Int} (h : (Lit.int .u8 a).wf = true) : 0 ≤ a ∧ a ≤ 255 := by
  simp [Lit.wf, IntKind.min, IntKind.max, IntKind.signed, IntKind.bits] at h; omega
/-- A dyad's contract at values that are known. -/
theorem dyad_at {op x y v e : Int} (w : World) (hx : -9223372036854775808 ≤ x ∧ x ≤ 9223372036854775807) (hy : -9223372036854775808 ≤ y ∧ y ≤ 9223372036854775807) (hv : dyV op x y = v) (he : dyE op x y = e) :
    Calls Try.prog 80 #[.int .i64 op, .int .i64 x, .int .i64 y] w (Ret w (.tuple #[.int .i64 v, .int .i64 e])) := by
  rw [← hv, ← he]; exact dyad_any op x y w hx hy
theorem monad_at {op y v e : Int} (w : World) (hy : -9223372036854775808 ≤ y ∧ y ≤ 9223372036854775807) (hv : moV op y = v) (he : moE op y = e) :
    Calls Try.prog 79 #[.int .i64 op, .int .i64 y] w (Ret w (.tuple #[.int .i64 v, .int .i64 e])) := by
  rw [← hv, ← he]; exact monad_any op y w hy
theorem add_at {x y v : Int} {b : Bool} (w : World) (hx : -9223372036854775808 ≤ x ∧ x ≤ 9223372036854775807) (hy : -9223372036854775808 ≤ y ∧ y ≤ 9223372036854775807) (hv : val (x + y) = v) (he : fit (x + y) = b) :
    Calls Try.prog 112 #[.int .i64 x, .int .i64 y] w (Ret w (.tuple #[.int .i64 v, .bool b])) := by
  rw [← hv, ← he]; exact add_any x y w hx hy
theorem mul_at {x y v : Int} {b : Bool} (w : World) (hx : -9223372036854775808 ≤ x ∧ x ≤ 9223372036854775807) (hy : -9223372036854775808 ≤ y ∧ y ≤ 9223372036854775807) (hv : val (x * y) = v) (he : fit (x * y) = b) :
    Calls Try.prog 113 #[.int .i64 x, .int .i64 y] w (Ret w (.tuple #[.int .i64 v, .bool b])) := by
  rw [← hv, ← he]; exact mul_any x y w hx hy
end Go.Proofs.Ytdedbfbkakofgaa

namespace Go.Proofs.Ytdedbfbkakofgaa
open Go.RowKit
set_option linter.unusedVariables false
set_option linter.unusedSimpArgs false

theorem ve_yes {n : Int} (h : -9223372036854775808 ≤ n ∧ n ≤ 9223372036854775807) : val n = n ∧ err n = 0 := ⟨val_of (fit_of h), err_of (fit_of h)⟩
theorem ve_no {n : Int} (h : ¬ (-9223372036854775808 ≤ n ∧ n ≤ 9223372036854775807)) : val n = 0 ∧ err n = 14 := ⟨val_not (fit_not h), err_not (fit_not h)⟩

set_option maxHeartbeats 400000 in
theorem rsum_any (x y : Int) (w : World) (hx : -9223372036854775808 ≤ x ∧ x ≤ 9223372036854775807) (hy : -9223372036854775808 ≤ y ∧ y ≤ 9223372036854775807) :
    Calls Try.prog 142 #[.int .i64 x, .int .i64 y] w (Ret w (.tuple #[.int .i64 (val (x + y)), .int .i64 (err (x + y))])) := by
  by_cases h : -9223372036854775808 ≤ x + y ∧ x + y ≤ 9223372036854775807
  · rw [(ve_yes h).1, (ve_yes h).2]
    rcases (show 0 < y ∨ y = 0 ∨ y < 0 by omega) with p | rfl | p
    all_goals
      go_enter Try.func142, Try.ntmps142
      go_wp2
      go_ret2
      exact Ret.mk0 (by simp [Array.getD])
  · rw [(ve_no h).1, (ve_no h).2]
    rcases (show 0 < y ∧ 9223372036854775807 - y < x ∨ y < 0 ∧ x < -9223372036854775808 - y by omega) with ⟨p, q⟩ | ⟨p, q⟩
    all_goals
      clear h
      go_enter Try.func142, Try.ntmps142
      go_wp2
      go_ret2
      exact Ret.mk0 rfl
set_option maxHeartbeats 400000 in
theorem rless_any (x y : Int) (w : World) (hx : -9223372036854775808 ≤ x ∧ x ≤ 9223372036854775807) (hy : -9223372036854775808 ≤ y ∧ y ≤ 9223372036854775807) :
    Calls Try.prog 139 #[.int .i64 x, .int .i64 y] w (Ret w (.tuple #[.int .i64 (val (x - y)), .int .i64 (err (x - y))])) := by
  by_cases h : -9223372036854775808 ≤ x - y ∧ x - y ≤ 9223372036854775807
  · rw [(ve_yes h).1, (ve_yes h).2]
    rcases (show 0 < y ∨ y = 0 ∨ y < 0 by omega) with p | rfl | p
    all_goals
      go_enter Try.func139, Try.ntmps139
      go_wp2
      go_ret2
      exact Ret.mk0 (by simp [Array.getD])
  · rw [(ve_no h).1, (ve_no h).2]
    rcases (show y < 0 ∧ 9223372036854775807 + y < x ∨ 0 < y ∧ x < -9223372036854775808 + y by omega) with ⟨p, q⟩ | ⟨p, q⟩
    all_goals
      clear h
      go_enter Try.func139, Try.ntmps139
      go_wp2
      go_ret2
      exact Ret.mk0 rfl
set_option maxHeartbeats 400000 in
theorem rsize_any (a : Int) (w : World) (ha : -9223372036854775808 ≤ a ∧ a ≤ 9223372036854775807) :
    Calls Try.prog 141 #[.int .i64 a] w (Ret w (.int .u64 (a.natAbs : Int))) := by
  by_cases h : a < 0
  · have HW : Hid (IntKind.u64.wrap (0 - IntKind.u64.wrap a) = (a.natAbs : Int)) := by rw [Int.zero_sub]; exact whole_neg ha h
    clear ha
    go_enter Try.func141, Try.ntmps141
    go_wp2
    go_ret
    exact Ret.mk0 (one_ (by have := HW.out; rw [Int.zero_sub] at this; exact this))
  · have HW := Lib.hid (whole_pos ha (by omega))
    clear ha
    go_enter Try.func141, Try.ntmps141
    go_wp2
    go_ret
    exact Ret.mk0 (one_ HW.out)
/-- A size with a sign. -/
def sg (b : Bool) (n : Nat) : Int := if b then -(n : Int) else n
set_option maxHeartbeats 400000 in
theorem rsigned_any (b : Bool) (n : Nat) (w : World) (hn : n ≤ 18446744073709551615) :
    Calls Try.prog 140 #[.bool b, .int .u64 n] w (Ret w (.tuple #[.int .i64 (val (sg b n)), .int .i64 (err (sg b n))])) := by
  cases b
  · show Calls _ _ _ _ (Ret w (.tuple #[.int .i64 (val (n : Int)), .int .i64 (err (n : Int))]))
    rcases (show n ≤ 9223372036854775807 ∨ n = 9223372036854775808 ∨ 9223372036854775808 < n by omega) with h | rfl | h
    · have e := ve_yes (n := (n : Int)) (by omega)
      rw [e.1, e.2]
      clear e
      have g : ((n : Int) == 9223372036854775808) = false := by simp; omega
      go_enter Try.func140, Try.ntmps140
      go_wp2
      go_ret2
      exact Ret.mk0 rfl
    · rw [show val ((9223372036854775808 : Nat) : Int) = 0 by decide, show err ((9223372036854775808 : Nat) : Int) = 14 by decide]
      go_enter Try.func140, Try.ntmps140
      go_wp2
      go_ret2
      exact Ret.mk0 rfl
    · have e := ve_no (n := (n : Int)) (by omega)
      rw [e.1, e.2]
      clear e
      go_enter Try.func140, Try.ntmps140
      go_wp2
      go_ret2
      exact Ret.mk0 rfl
  · show Calls _ _ _ _ (Ret w (.tuple #[.int .i64 (val (-(n : Int))), .int .i64 (err (-(n : Int)))]))
    rcases (show n ≤ 9223372036854775807 ∨ n = 9223372036854775808 ∨ 9223372036854775808 < n by omega) with h | rfl | h
    · have e := ve_yes (n := -(n : Int)) (by omega)
      rw [e.1, e.2]
      clear e
      have g : ((n : Int) == 9223372036854775808) = false := by simp; omega
      have hw : Hid (wrap64 (IntKind.u64.wrap (-(n : Int))) = -(n : Int)) := by show _ = _; rw [IntKind.wrap_u64]; unfold wrap64; omega
      go_enter Try.func140, Try.ntmps140
      go_wp2
      go_ret2
      exact Ret.mk0 (twi ⟨hw.out, rfl⟩)
    · rw [show val (-((9223372036854775808 : Nat) : Int)) = -9223372036854775808 by decide, show err (-((9223372036854775808 : Nat) : Int)) = 0 by decide]
      have hw : wrap64 (IntKind.u64.wrap (-9223372036854775808)) = -9223372036854775808 := by rw [IntKind.wrap_u64]; unfold wrap64; omega
      go_enter Try.func140, Try.ntmps140
      go_wp2
      go_ret2
      exact Ret.mk0 (twi ⟨hw, rfl⟩)
    · have e := ve_no (n := -(n : Int)) (by omega)
      rw [e.1, e.2]
      clear e
      go_enter Try.func140, Try.ntmps140
      go_wp2
      go_ret2
      exact Ret.mk0 rfl
/-- A product of sizes: 64 bits hold it. -/
def fitU (n : Nat) : Bool := decide (n ≤ 18446744073709551615)
def valU (n : Nat) : Nat := if fitU n then n else 0
theorem fitU_yes {n : Nat} (h : n ≤ 18446744073709551615) : fitU n = true ∧ valU n = n := by simp [fitU, valU, h]
theorem fitU_no {n : Nat} (h : ¬ n ≤ 18446744073709551615) : fitU n = false ∧ valU n = 0 := by simp [fitU, valU, h]
theorem fitU_iff {n : Nat} : fitU n = true ↔ n ≤ 18446744073709551615 := by simp [fitU]
theorem prod_test {a b : Nat} (hb : 1 ≤ b) : a ≤ 18446744073709551615 / b ↔ a * b ≤ 18446744073709551615 := Nat.le_div_iff_mul_le (by omega)
set_option maxHeartbeats 400000 in
theorem rproduct_any (a b : Nat) (w : World) (ha : a ≤ 18446744073709551615) (hb : b ≤ 18446744073709551615) :
    Calls Try.prog 149 #[.int .u64 a, .int .u64 b] w (Ret w (.tuple #[.int .u64 (valU (a * b)), .bool (fitU (a * b))])) := by
  by_cases a0 : a = 0
  · subst a0
    rw [Nat.zero_mul, (fitU_yes (n := 0) (by omega)).1, (fitU_yes (n := 0) (by omega)).2]
    go_enter Try.func149, Try.ntmps149
    go_wp2
    go_ret2
    exact Ret.mk0 rfl
  have ga : ((a : Int) == 0) = false := by simpa using a0
  by_cases b0 : b = 0
  · subst b0
    rw [Nat.mul_zero, (fitU_yes (n := 0) (by omega)).1, (fitU_yes (n := 0) (by omega)).2]
    go_enter Try.func149, Try.ntmps149
    go_wp2
    go_ret2
    exact Ret.mk0 rfl
  have gb : ((b : Int) == 0) = false := by simpa using b0
  have ht := prod_test (a := a) (b := b) (by omega)
  have hq : (18446744073709551615 : Int) / (b : Int) = ((18446744073709551615 / b : Nat) : Int) := by simp
  obtain ⟨q, HQ⟩ : ∃ q, Hid (18446744073709551615 / b = q) := ⟨_, rfl⟩
  rw [HQ.out] at ht hq
  have hb1 : (1 : Int) ≤ b := by omega
  by_cases h : a ≤ q
  · have hp := ht.1 h
    rw [(fitU_yes hp).1, (fitU_yes hp).2]
    have hw : IntKind.u64.wrap ((a : Int) * b) = ((a * b : Nat) : Int) := by rw [← Int.natCast_mul]; exact wrap_u64_nat _ (by omega)
    clear hp ht
    have h' : (a : Int) ≤ q := by omega
    go_enter Try.func149, Try.ntmps149
    go_wp2
    go_ret2
    exact Ret.mk0 (by simp [Array.getD])
  · have hp : ¬ a * b ≤ 18446744073709551615 := fun k => h (ht.2 k)
    rw [(fitU_no hp).1, (fitU_no hp).2]
    clear hp ht
    have h' : (q : Int) < a := by omega
    go_enter Try.func149, Try.ntmps149
    go_wp2
    go_ret2
    exact Ret.mk0 rfl

theorem sg_mul (x y : Int) : sg ((decide (x < 0)) != (decide (y < 0))) (x.natAbs * y.natAbs) = x * y := by
  by_cases a : x < 0 <;> by_cases b : y < 0 <;> simp only [a, b, decide_true, decide_false, sg]
  · rw [show (true != true) = false from rfl, if_neg (by simp)]
    obtain ⟨m, rfl⟩ : ∃ m : Nat, x = -(m : Int) := ⟨x.natAbs, by omega⟩
    obtain ⟨n, rfl⟩ : ∃ n : Nat, y = -(n : Int) := ⟨y.natAbs, by omega⟩
    simp [Int.neg_mul_neg]
  · rw [show (true != false) = true from rfl, if_pos rfl]
    obtain ⟨m, rfl⟩ : ∃ m : Nat, x = -(m : Int) := ⟨x.natAbs, by omega⟩
    obtain ⟨n, rfl⟩ : ∃ n : Nat, y = (n : Int) := ⟨y.natAbs, by omega⟩
    simp [Int.neg_mul]
  · rw [show (false != true) = true from rfl, if_pos rfl]
    obtain ⟨m, rfl⟩ : ∃ m : Nat, x = (m : Int) := ⟨x.natAbs, by omega⟩
    obtain ⟨n, rfl⟩ : ∃ n : Nat, y = -(n : Int) := ⟨y.natAbs, by omega⟩
    simp [Int.mul_neg]
  · rw [show (false != false) = false from rfl, if_neg (by simp)]
    obtain ⟨m, rfl⟩ : ∃ m : Nat, x = (m : Int) := ⟨x.natAbs, by omega⟩
    obtain ⟨n, rfl⟩ : ∃ n : Nat, y = (n : Int) := ⟨y.natAbs, by omega⟩
    simp
theorem sg_abs (b : Bool) (n : Nat) : (sg b n).natAbs = n := by cases b <;> simp [sg]
set_option maxHeartbeats 400000 in
theorem rtimes_any (x y : Int) (w : World) (hx : -9223372036854775808 ≤ x ∧ x ≤ 9223372036854775807) (hy : -9223372036854775808 ≤ y ∧ y ≤ 9223372036854775807) :
    Calls Try.prog 143 #[.int .i64 x, .int .i64 y] w (Ret w (.tuple #[.int .i64 (val (x * y)), .int .i64 (err (x * y))])) := by
  have hs := sg_mul x y
  have ha := sg_abs ((decide (x < 0)) != (decide (y < 0))) (x.natAbs * y.natAbs)
  have A1 := Lib.hid (fun w => rsize_any x w hx)
  have A2 := Lib.hid (fun w => rsize_any y w hy)
  have A3 := Lib.hid (fun w => rproduct_any x.natAbs y.natAbs w (by omega) (by omega))
  obtain ⟨n, hn⟩ : ∃ n, x.natAbs * y.natAbs = n := ⟨_, rfl⟩
  rw [hn] at hs ha A3
  rw [← hs]
  by_cases h : n ≤ 18446744073709551615
  · rw [(fitU_yes h).1, (fitU_yes h).2] at A3
    have A4 := Lib.hid (fun w => rsigned_any ((decide (x < 0)) != (decide (y < 0))) n w h)
    clear hs ha hn
    go_enter Try.func143, Try.ntmps143
    go_wp2_with fail
    refine (A1.out _).mono ?_; rintro e w' ⟨rfl, n1, rfl⟩
    go_wp2_with fail
    refine (A2.out _).mono ?_; rintro e w' ⟨rfl, n2, rfl⟩
    go_wp2_with fail
    refine (A3.out _).mono ?_; rintro e w' ⟨rfl, n3, rfl⟩
    go_wp2_with fail
    refine (A4.out _).mono ?_; rintro e w' ⟨rfl, n4, rfl⟩
    go_wp2
    go_ret2
    exact Ret.mk _ rfl
  · rw [(fitU_no h).1, (fitU_no h).2] at A3
    have e := ve_no (n := sg ((decide (x < 0)) != (decide (y < 0))) n) (by omega)
    rw [e.1, e.2]
    clear hs ha hn e
    go_enter Try.func143, Try.ntmps143
    go_wp2_with fail
    refine (A1.out _).mono ?_; rintro e w' ⟨rfl, n1, rfl⟩
    go_wp2_with fail
    refine (A2.out _).mono ?_; rintro e w' ⟨rfl, n2, rfl⟩
    go_wp2_with fail
    refine (A3.out _).mono ?_; rintro e w' ⟨rfl, n3, rfl⟩
    go_wp2
    go_ret2
    exact Ret.mk _ rfl

/-- A checked number by its parts, for the three that hand back a truth. -/
theorem err_ok (n : Int) : (err n == 0) = fit n := by cases h : fit n <;> simp [err, h]
set_option maxHeartbeats 400000 in
theorem rtruth_any (b : Bool) (w : World) :
    Calls Try.prog 145 #[.bool b] w (Ret w (.tuple #[.int .i64 (bit b), .int .i64 0])) := by
  cases b <;> (go_enter Try.func145, Try.ntmps145; go_wp2; go_ret2; exact Ret.mk0 rfl)
set_option maxHeartbeats 400000 in
theorem rRow_any (a : Int) (w : World) : Calls Try.prog 133 #[.int .i64 a] w (Ret w (.bool (rowB a))) := by
  by_cases h : 1 ≤ a <;> by_cases h' : a ≤ 21
  · rw [rowB_yes h h']
    go_enter Try.func133, Try.ntmps133; go_wp2; go_ret; exact Ret.mk0 rfl
  · rw [rowB_no (by omega)]
    go_enter Try.func133, Try.ntmps133; go_wp2; go_ret; exact Ret.mk0 rfl
  · rw [rowB_no (by omega)]
    go_enter Try.func133, Try.ntmps133; go_wp2; go_ret; exact Ret.mk0 rfl
  · rw [rowB_no (by omega)]
    go_enter Try.func133, Try.ntmps133; go_wp2; go_ret; exact Ret.mk0 rfl
set_option maxHeartbeats 400000 in
theorem rcommon_any (a b : Nat) (w : World) (ha : a ≤ 18446744073709551615) (hb : b ≤ 18446744073709551615) :
    Calls Try.prog 148 #[.int .u64 a, .int .u64 b] w (Ret w (.int .u64 (Nat.gcd a b : Int))) := by
  go_enter Try.func148, Try.ntmps148
  go_wp2
  go_loopw [0, 1] (fun p q wr => ∃ x y : Nat, x ≤ 18446744073709551615 ∧ y ≤ 18446744073709551615 ∧ p = .int .u64 x ∧ q = .int .u64 y ∧ Hid (Nat.gcd x y = Nat.gcd a b) ∧ ∃ n, wr = w.drewN n) (fun _ q _ => (intOf q).toNat)
  case atStart => exact ⟨a, b, ha, hb, rfl, rfl, rfl, 0, rfl⟩
  case round =>
    obtain ⟨x, y, hx, hy, rfl, rfl, hg, n, rfl⟩ := hrel
    by_cases h : y = 0
    · subst h
      go_wp2
      go_ret
      exact Ret.mk _ (one_ (by have := hg.out; rw [Nat.gcd_zero_right] at this; rw [← this]))
    · have hl := Nat.mod_lt x (show 0 < y by omega)
      have hs := Lib.hid (gcd_step x y)
      have h1 : (1 : Int) ≤ (y : Int) := by omega
      have h2 : ¬ (y : Int) = 0 := by omega
      go_wp2
      go_quiet (fail)
      go_wp2
      go_roundw
      case rel => exact ⟨y, x % y, hy, by omega, rfl, by go_num, hs.out.trans hg.out, n + nq, World.drewN_drewN _ _ _⟩
      case measure => simp [intOf]; omega
end Go.Proofs.Ytdedbfbkakofgaa

namespace Go.Proofs.Ytdedbfbkakofgaa
open Go.RowKit
set_option linter.unusedVariables false
set_option linter.unusedSimpArgs false

/-- The quotient of two sizes, up where something is left and the signs part. -/
def upq (b : Bool) (m n : Nat) : Nat := if b && (m % n != 0) then m / n + 1 else m / n
theorem upq_sg {x y : Int} (h0 : ¬ y = 0) : sg (decide (x < 0) != decide (y < 0)) (upq (decide (x < 0) != decide (y < 0)) x.natAbs y.natAbs) = x.fdiv y ∧
    (let m := x.natAbs % y.natAbs; x.fmod y = (if y < 0 then -((if m ≠ 0 ∧ ((decide (y < 0)) != (decide (x < 0))) = true then y.natAbs - m else m : Nat) : Int) else ((if m ≠ 0 ∧ ((decide (y < 0)) != (decide (x < 0))) = true then y.natAbs - m else m : Nat) : Int))) := by
  have hdm := Nat.div_add_mod x.natAbs y.natAbs
  have hml := Nat.mod_lt x.natAbs (show 0 < y.natAbs by omega)
  unfold upq
  generalize hk : x.natAbs / y.natAbs = k at *
  generalize hm : x.natAbs % y.natAbs = m at *
  have hyk : (y.natAbs : Int) * (k : Int) + m = x.natAbs := by rw [← hdm]; simp
  by_cases hx : x < 0 <;> by_cases hy : y < 0 <;> by_cases hz : m = 0
  all_goals simp only [hx, hy, hz, decide_true, decide_false, bne_self_eq_false, Bool.false_and, Bool.true_and, ne_eq, not_true_eq_false, false_and, if_false, if_true, sg, not_false_eq_true, true_and]
  all_goals (try simp only [show (true != false) = true from rfl, show (false != true) = true from rfl, Bool.true_and, if_true, show (0 != 0) = false from rfl, Bool.false_eq_true, if_false])
  · have e : y * (k : Int) = -((y.natAbs : Int) * k) := by rw [← Int.neg_mul]; congr 1; omega
    have := fdiv_of (a := x) (b := y) (q := (k : Int)) (r := 0) h0 (by omega) (by omega) (by omega)
    exact ⟨this.1.symm, by rw [this.2]; rfl⟩
  · have e : y * (k : Int) = -((y.natAbs : Int) * k) := by rw [← Int.neg_mul]; congr 1; omega
    have := fdiv_of (a := x) (b := y) (q := (k : Int)) (r := -(m : Int)) h0 (by omega) (by omega) (by omega)
    exact ⟨this.1.symm, by rw [this.2]⟩
  · have e : y * (-(k : Int)) = -((y.natAbs : Int) * k) := by rw [Int.mul_neg]; congr 2; omega
    have := fdiv_of (a := x) (b := y) (q := -(k : Int)) (r := 0) h0 (by omega) (by omega) (by omega)
    exact ⟨this.1.symm, by rw [this.2]; rfl⟩
  · have hz' : (m != 0) = true := by simpa using hz
    simp only [hz', if_true]
    have e : y * (-((k + 1 : Nat) : Int)) = -((y.natAbs : Int) * k) - y := by
      rw [Int.mul_neg, Int.natCast_add, Int.mul_add]
      have : y * (k : Int) = (y.natAbs : Int) * k := by congr 1; omega
      rw [this]; simp; omega
    have := fdiv_of (a := x) (b := y) (q := -((k + 1 : Nat) : Int)) (r := ((y.natAbs - m : Nat) : Int)) h0 (by omega) (by omega) (by omega)
    exact ⟨this.1.symm, this.2⟩
  · have e : y * (-(k : Int)) = ((y.natAbs : Int) * k) := by rw [Int.mul_neg, ← Int.neg_mul]; congr 1; omega
    have := fdiv_of (a := x) (b := y) (q := -(k : Int)) (r := 0) h0 (by omega) (by omega) (by omega)
    exact ⟨this.1.symm, by rw [this.2]; rfl⟩
  · have hz' : (m != 0) = true := by simpa using hz
    simp only [hz', if_true]
    have e : y * (-((k + 1 : Nat) : Int)) = ((y.natAbs : Int) * k) - y := by
      rw [Int.natCast_add, Int.mul_neg, ← Int.neg_mul, Int.mul_add]
      have : -y * (k : Int) = (y.natAbs : Int) * k := by congr 1; omega
      rw [this]; simp; omega
    have := fdiv_of (a := x) (b := y) (q := -((k + 1 : Nat) : Int)) (r := -((y.natAbs - m : Nat) : Int)) h0 (by omega) (by omega) (by omega)
    exact ⟨this.1.symm, this.2⟩
  · have e : y * (k : Int) = ((y.natAbs : Int) * k) := by congr 1; omega
    have := fdiv_of (a := x) (b := y) (q := (k : Int)) (r := 0) h0 (by omega) (by omega) (by omega)
    exact ⟨this.1.symm, by rw [this.2]; rfl⟩
  · have e : y * (k : Int) = ((y.natAbs : Int) * k) := by congr 1; omega
    have := fdiv_of (a := x) (b := y) (q := (k : Int)) (r := (m : Int)) h0 (by omega) (by omega) (by omega)
    exact ⟨this.1.symm, this.2⟩
end Go.Proofs.Ytdedbfbkakofgaa

/- The walk of the statement on monads there and back. -/
import Derived.Test.YtkgakpofophhjaaNumBegun
namespace Go.Proofs.Ytkgakpofophhjaa
open Go.RowKit
set_option linter.unusedVariables false
set_option linter.unusedSimpArgs false
/-- A verb and the one that undoes it. -/
def Back (p q y a e : Int) : Prop := moV p y = a ∧ moE p y = e ∧ ((e = 0 ∧ moV q a = y ∧ moE q a = 0 ∧ -9223372036854775808 ≤ a ∧ a ≤ 9223372036854775807) ∨ (¬ e = 0 ∧ a = 0))
theorem back_val {p q y n : Int} (hy : -9223372036854775808 ≤ y ∧ y ≤ 9223372036854775807) (h1 : moV p y = val n) (h2 : moE p y = err n) (h3 : fit n = true → moV q n = val y ∧ moE q n = err y) : ∃ a e, Back p q y a e := by
  cases h : fit n
  · exact ⟨0, 14, by rw [h1, val_not h], by rw [h2, err_not h], .inr ⟨by omega, rfl⟩⟩
  · have h4 := h3 h
    have hb := (fit_iff n).1 h
    exact ⟨n, 0, by rw [h1, val_of h], by rw [h2, err_of h], .inl ⟨rfl, by rw [h4.1, val_of (fit_of hy)], by rw [h4.2, err_of (fit_of hy)], hb.1, hb.2⟩⟩
theorem back1 {y : Int} (hy : -9223372036854775808 ≤ y ∧ y ≤ 9223372036854775807) : ∃ a e, Back 13 12 y a e :=
  back_val (n := y + 1) hy rfl rfl fun _ => ⟨by show val (y + 1 - 1) = _; rw [show y + 1 - 1 = y by omega], by show err (y + 1 - 1) = _; rw [show y + 1 - 1 = y by omega]⟩
theorem back2 {y : Int} (hy : -9223372036854775808 ≤ y ∧ y ≤ 9223372036854775807) : ∃ a e, Back 12 13 y a e :=
  back_val (n := y - 1) hy rfl rfl fun _ => ⟨by show val (y - 1 + 1) = _; rw [show y - 1 + 1 = y by omega], by show err (y - 1 + 1) = _; rw [show y - 1 + 1 = y by omega]⟩
theorem back3 {y : Int} (hy : -9223372036854775808 ≤ y ∧ y ≤ 9223372036854775807) : ∃ a e, Back 2 2 y a e :=
  back_val (n := -y) hy rfl rfl fun _ => ⟨by show val (- -y) = _; rw [show - -y = y by omega], by show err (- -y) = _; rw [show - -y = y by omega]⟩
theorem back4 {y : Int} (hy : -9223372036854775808 ≤ y ∧ y ≤ 9223372036854775807) : ∃ a e, Back 18 18 y a e :=
  back_val (n := 1 - y) hy rfl rfl fun _ => ⟨by show val (1 - (1 - y)) = _; rw [show 1 - (1 - y) = y by omega], by show err (1 - (1 - y)) = _; rw [show 1 - (1 - y) = y by omega]⟩
theorem back5 {y : Int} (hy : -9223372036854775808 ≤ y ∧ y ≤ 9223372036854775807) : ∃ a e, Back 16 19 y a e :=
  back_val (n := y + y) hy rfl rfl fun _ => by
    have h : (y + y) % 2 = 0 := by omega
    have hh : (y + y) / 2 = y := by omega
    constructor
    · show halfV (y + y) = _
      rw [halfV, if_pos h, hh, val_of (fit_of hy)]
    · show halfE (y + y) = _
      rw [halfE, if_pos h, err_of (fit_of hy)]
theorem back6 {y : Int} (hy : -9223372036854775808 ≤ y ∧ y ≤ 9223372036854775807) : ∃ a e, Back 19 16 y a e := by
  by_cases h : y % 2 = 0
  · refine ⟨y / 2, 0, ?_, ?_, .inl ⟨rfl, ?_, ?_, by omega, by omega⟩⟩
    · show halfV y = _; rw [halfV, if_pos h]
    · show halfE y = _; rw [halfE, if_pos h]
    · show val (y / 2 + y / 2) = _; rw [show y / 2 + y / 2 = y by omega, val_of (fit_of hy)]
    · show err (y / 2 + y / 2) = _; rw [show y / 2 + y / 2 = y by omega, err_of (fit_of hy)]
  · refine ⟨0, 10, ?_, ?_, .inr ⟨by omega, rfl⟩⟩
    · show halfV y = _; rw [halfV, if_neg h]
    · show halfE y = _; rw [halfE, if_neg h]
theorem alloc_drewN (W : World) (n : Nat) (o : Obj) : (W.drewN n).alloc o = (W.alloc o).drewN n := rfl
theorem setCell_drewN (W : World) (n : Nat) (a : Addr) (v : Value) : (W.drewN n).setCell a v = (W.setCell a v).drewN n := rfl
attribute [local go_sem] alloc_drewN setCell_drewN
theorem moV3 (y : Int) : moV 3 y = sgn y := rfl
theorem moE3 (y : Int) : moE 3 y = 0 := rfl
theorem moV5 (y : Int) : moV 5 y = val y.natAbs := rfl
theorem moE5 (y : Int) : moE 5 y = err y.natAbs := rfl
theorem grown_one (w : World) (A : Array Value) (t : TypeId) (n : Nat) : Grown w ((w.alloc (.cells A t)).drewN n) := Grown.alloc (Grown.refl w) A t
set_option maxRecDepth 100000 in
set_option maxHeartbeats 2000000 in
theorem walkNumBack (y : Int) (hy : -9223372036854775808 ≤ y ∧ y ≤ 9223372036854775807) (w : World) :
    Calls Try.prog 10 #[.int .i64 y] w (RetG w (.bool true)) := by
  have HY := Lib.hid hy
  go_enter Try.func10, Try.ntmps10
  go_wp2_with fail
  refine (begun_any _).mono ?_; rintro e w' ⟨rfl, n0, rfl⟩
  go_wp2_with fail
  go_loopw [4] (fun i wr => ∃ k : Int, 0 ≤ k ∧ k ≤ 6 ∧ i = .int .i64 k ∧ ∃ q, wr = (w.alloc (.cells #[.int .i64 13, .int .i64 12, .int .i64 12, .int .i64 13, .int .i64 2, .int .i64 2, .int .i64 18, .int .i64 18, .int .i64 16, .int .i64 19, .int .i64 19, .int .i64 16] 44)).drewN q) (fun i _ => (6 - intOf i).toNat)
  case atStart => exact ⟨0, by omega, by omega, rfl, n0, rfl⟩
  case round =>
    obtain ⟨k, hk0, hk6, rfl, q, rfl⟩ := hrel
    by_cases hk : k < 6
    · obtain ⟨p1, p2, a, e, ⟨b1, b2, b3⟩, hkk⟩ : ∃ p1 p2 a e, Back p1 p2 y a e ∧ ((k = 0 ∧ p1 = 13 ∧ p2 = 12) ∨ (k = 1 ∧ p1 = 12 ∧ p2 = 13) ∨ (k = 2 ∧ p1 = 2 ∧ p2 = 2) ∨ (k = 3 ∧ p1 = 18 ∧ p2 = 18) ∨ (k = 4 ∧ p1 = 16 ∧ p2 = 19) ∨ (k = 5 ∧ p1 = 19 ∧ p2 = 16)) := by
        rcases (show k = 0 ∨ k = 1 ∨ k = 2 ∨ k = 3 ∨ k = 4 ∨ k = 5 by omega) with rfl | rfl | rfl | rfl | rfl | rfl
        · obtain ⟨a, e, h⟩ := back1 hy; exact ⟨_, _, a, e, h, by omega⟩
        · obtain ⟨a, e, h⟩ := back2 hy; exact ⟨_, _, a, e, h, by omega⟩
        · obtain ⟨a, e, h⟩ := back3 hy; exact ⟨_, _, a, e, h, by omega⟩
        · obtain ⟨a, e, h⟩ := back4 hy; exact ⟨_, _, a, e, h, by omega⟩
        · obtain ⟨a, e, h⟩ := back5 hy; exact ⟨_, _, a, e, h, by omega⟩
        · obtain ⟨a, e, h⟩ := back6 hy; exact ⟨_, _, a, e, h, by omega⟩
      have A1 := Lib.hid (fun w => monad_at (op := p1) (y := y) w hy b1 b2)
      have A2 : Hid (∀ w, e = 0 → Calls Try.prog 19 #[.int .i64 p2, .int .i64 a] w (Ret w (.tuple #[.int .i64 y, .int .i64 0]))) := by
        intro w he
        rcases b3 with ⟨_, h1, h2, h3, h4⟩ | ⟨h1, _⟩
        · exact monad_at w ⟨h3, h4⟩ h1 h2
        · exact absurd he h1
      have b4 : e = 0 ∨ ((e != 0) = true ∧ a = 0) := by
        rcases b3 with ⟨h, _⟩ | ⟨h, h'⟩
        · exact .inl h
        · exact .inr ⟨by simpa using h, h'⟩
      clear b1 b2 b3 hk hk0 hk6
      rcases b4 with rfl | ⟨h1, rfl⟩
      · rcases hkk with ⟨rfl, rfl, rfl⟩ | ⟨rfl, rfl, rfl⟩ | ⟨rfl, rfl, rfl⟩ | ⟨rfl, rfl, rfl⟩ | ⟨rfl, rfl, rfl⟩ | ⟨rfl, rfl, rfl⟩
        all_goals
          go_wp2_with fail
          refine (A1.out _).mono ?_; rintro e w' ⟨rfl, n1, rfl⟩
          go_wp2_with fail
          refine (A2.out _ (by trivial)).mono ?_; rintro e w' ⟨rfl, n2, rfl⟩
          go_wp2
          go_roundw
          case rel => exact ⟨_, by omega, by omega, rfl, _, rfl⟩
          case measure => simp [intOf]
      · rcases hkk with ⟨rfl, rfl, rfl⟩ | ⟨rfl, rfl, rfl⟩ | ⟨rfl, rfl, rfl⟩ | ⟨rfl, rfl, rfl⟩ | ⟨rfl, rfl, rfl⟩ | ⟨rfl, rfl, rfl⟩
        all_goals
          go_wp2_with fail
          refine (A1.out _).mono ?_; rintro e w' ⟨rfl, n1, rfl⟩
          go_wp2
          go_roundw
          case rel => exact ⟨_, by omega, by omega, rfl, _, rfl⟩
          case measure => simp [intOf]
    · obtain rfl : k = 6 := by omega
      clear hk hk0 hk6
      have A1 := Lib.hid (fun w => monad_any 3 y w hy)
      have A2 := Lib.hid (fun w => monad_any 5 y w hy)
      rw [moV3, moE3] at A1
      rw [moV5, moE5] at A2
      by_cases y0 : y < 0
      · rw [show sgn y = -1 by simp [sgn, y0]] at A1
        by_cases ym : y = -9223372036854775808
        · have hf : fit (y.natAbs : Int) = false := fit_not (by omega)
          rw [val_not hf, err_not hf] at A2
          subst ym
          clear hf
          go_wp2_with fail
          refine (A1.out _).mono ?_; rintro e w' ⟨rfl, n1, rfl⟩
          go_wp2_with fail
          refine (A2.out _).mono ?_; rintro e w' ⟨rfl, n2, rfl⟩
          go_wp2
          go_ret
          exact RetG.mk rfl (grown_one w _ _ _)
        · have hf : fit (y.natAbs : Int) = true := fit_of (by omega)
          rw [val_of hf, err_of hf] at A2
          obtain ⟨z, hz, hz1⟩ : ∃ z : Int, (y.natAbs : Int) = z ∧ z = -y := ⟨_, rfl, by omega⟩
          rw [hz] at A2
          clear hf
          have g1 : (wrap64 (-1 * z) == y) = true := by rw [hz1]; unfold wrap64; simp; omega
          have g2 : 0 ≤ z := by omega
          have g3 : -z = y := by omega
          clear hz hz1
          go_wp2_with fail
          refine (A1.out _).mono ?_; rintro e w' ⟨rfl, n1, rfl⟩
          go_wp2_with fail
          refine (A2.out _).mono ?_; rintro e w' ⟨rfl, n2, rfl⟩
          go_wp2
          go_ret
          exact RetG.mk rfl (grown_one w _ _ _)
      · have hf : fit (y.natAbs : Int) = true := fit_of (by omega)
        rw [val_of hf, err_of hf, show (y.natAbs : Int) = y by omega] at A2
        by_cases y1 : 0 < y
        · rw [show sgn y = 1 by simp [sgn, y0, y1]] at A1
          clear hf
          go_wp2_with fail
          refine (A1.out _).mono ?_; rintro e w' ⟨rfl, n1, rfl⟩
          go_wp2_with fail
          refine (A2.out _).mono ?_; rintro e w' ⟨rfl, n2, rfl⟩
          go_wp2
          go_ret
          exact RetG.mk rfl (grown_one w _ _ _)
        · obtain rfl : y = 0 := by omega
          rw [show sgn 0 = 0 by decide] at A1
          clear hf y0 y1
          go_wp2_with fail
          refine (A1.out _).mono ?_; rintro e w' ⟨rfl, n1, rfl⟩
          go_wp2_with fail
          refine (A2.out _).mono ?_; rintro e w' ⟨rfl, n2, rfl⟩
          go_wp2
          go_ret
          exact RetG.mk rfl (grown_one w _ _ _)
end Go.Proofs.Ytkgakpofophhjaa

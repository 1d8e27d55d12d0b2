/- The walk of the statement on every call. -/
import Derived.Test.YtkgakpofophhjaaNumRefCalls
namespace Go.Proofs.Ytkgakpofophhjaa
open Go.RowKit
set_option linter.unusedVariables false
set_option linter.unusedSimpArgs false
theorem alloc_drewN (W : World) (n : Nat) (o : Obj) : (W.drewN n).alloc o = (W.alloc o).drewN n := rfl
attribute [local go_sem] alloc_drewN
theorem below_one (w : World) (A : Array Value) (t : TypeId) (n : Nat) : Below w.heap.size w ((w.alloc (.cells A t)).drewN n) :=
  below_drewN ((Below.refl _ _).alloc (Nat.le_refl _) _) n
/-- The call hands back v; what lay in memory lies as it lay. -/
def RetB (w : World) (v : Value) (e : Ending) (w' : World) : Prop := e = .returned v ∧ Below w.heap.size w w'
theorem RetB.mk {w w' : World} {v v' : Value} (h : v' = v) (hg : Below w.heap.size w w') : RetB w v (.returned v') w' := ⟨by rw [h], hg⟩
theorem grown_one (w : World) (A : Array Value) (t : TypeId) (n : Nat) : Grown w ((w.alloc (.cells A t)).drewN n) := Grown.alloc (Grown.refl w) A t
set_option maxRecDepth 100000 in
set_option maxHeartbeats 800000 in
theorem plays_any (k op x y : Int) (w : World) (hx : -9223372036854775808 ≤ x ∧ x ≤ 9223372036854775807) (hy : -9223372036854775808 ≤ y ∧ y ≤ 9223372036854775807) :
    Calls Try.prog 12 #[.agg #[.int .i64 k, .int .i64 op, .int .i64 x, .int .i64 y]] w (RetB w (.bool true)) := by
  have A1 := Lib.hid (fun w => monad_any op y w hy)
  have A2 := Lib.hid (fun w => rmonad_any op y w hy)
  have A3 := Lib.hid (fun w => dyad_any op x y w hx hy)
  have A4 := Lib.hid (fun w => rdyad_any op x y w hx hy)
  have A5 := Lib.hid (fun w => add_any x y w hx hy)
  have A6 := Lib.hid (fun w => rAdd_any x y w hx hy)
  have A7 := Lib.hid (fun w => sub_any x y w hx hy)
  have A8 := Lib.hid (fun w => rSub_any x y w hx hy)
  have A9 := Lib.hid (fun w => mul_any x y w hx hy)
  have A10 := Lib.hid (fun w => rMul_any x y w hx hy)
  clear hx hy
  rcases (show k = 1 ∨ k = 2 ∨ k = 3 ∨ k = 4 ∨ k = 5 ∨ (k < 1 ∨ 5 < k) by omega) with rfl | rfl | rfl | rfl | rfl | h
  · go_enter Try.func12, Try.ntmps12
    go_wp2_with fail
    refine (A1.out _).mono ?_; rintro e w' ⟨rfl, n1, rfl⟩
    go_wp2_with fail
    refine (A2.out _).mono ?_; rintro e w' ⟨rfl, n2, rfl⟩
    go_wp2
    go_ret
    exact RetB.mk rfl (below_one w _ _ _)
  · go_enter Try.func12, Try.ntmps12
    go_wp2_with fail
    refine (A3.out _).mono ?_; rintro e w' ⟨rfl, n1, rfl⟩
    go_wp2_with fail
    refine (A4.out _).mono ?_; rintro e w' ⟨rfl, n2, rfl⟩
    go_wp2
    go_ret
    exact RetB.mk rfl (below_one w _ _ _)
  · go_enter Try.func12, Try.ntmps12
    go_wp2_with fail
    refine (A5.out _).mono ?_; rintro e w' ⟨rfl, n1, rfl⟩
    go_wp2_with fail
    refine (A6.out _).mono ?_; rintro e w' ⟨rfl, n2, rfl⟩
    go_wp2
    go_ret
    exact RetB.mk rfl (below_one w _ _ _)
  · go_enter Try.func12, Try.ntmps12
    go_wp2_with fail
    refine (A7.out _).mono ?_; rintro e w' ⟨rfl, n1, rfl⟩
    go_wp2_with fail
    refine (A8.out _).mono ?_; rintro e w' ⟨rfl, n2, rfl⟩
    go_wp2
    go_ret
    exact RetB.mk rfl (below_one w _ _ _)
  · go_enter Try.func12, Try.ntmps12
    go_wp2_with fail
    refine (A9.out _).mono ?_; rintro e w' ⟨rfl, n1, rfl⟩
    go_wp2_with fail
    refine (A10.out _).mono ?_; rintro e w' ⟨rfl, n2, rfl⟩
    go_wp2
    go_ret
    exact RetB.mk rfl (below_one w _ _ _)
  · rcases h with h | h
    all_goals
      go_enter Try.func12, Try.ntmps12
      go_wp2
      go_ret
      exact RetB.mk rfl (below_one w _ _ 0)

/-- One call of the script, as it lies in memory. -/
def OpAt (w : World) (b off : Nat) : Prop := ∃ k op x y : Int, w.cell? ⟨b, off, none⟩ = some (.int .i64 k) ∧ w.cell? ⟨b, off + 1, none⟩ = some (.int .i64 op) ∧ w.cell? ⟨b, off + 2, none⟩ = some (.int .i64 x) ∧ w.cell? ⟨b, off + 3, none⟩ = some (.int .i64 y) ∧
  (-9223372036854775808 ≤ x ∧ x ≤ 9223372036854775807) ∧ (-9223372036854775808 ≤ y ∧ y ≤ 9223372036854775807)
/-- A script of calls: a slice that is nil, empty, or lies in a row. -/
def IsOps (w : World) (a : Option Addr) (len : Nat) : Prop := len ≤ 9223372036854775807 ∧ (0 < len → ∃ b off, a = some ⟨b, off, none⟩ ∧ b < w.heap.size ∧ ∀ i, i < len → OpAt w b (off + i * 4))
set_option maxRecDepth 100000 in
set_option maxHeartbeats 800000 in
theorem walkNumAll (a : Option Addr) (len cap : Nat) (w : World) (h : IsOps w a len) :
    Calls Try.prog 3 #[.slice a len cap] w (RetB w (.bool true)) := by
  obtain ⟨hl, hops⟩ := h
  have HO := Lib.hid hops
  clear hops
  go_enter Try.func3, Try.ntmps3
  go_wp2_with fail
  refine (begun_any _).mono ?_; rintro e w' ⟨rfl, n0, rfl⟩
  go_wp2_with fail
  go_loopw [3] (fun i wr => ∃ k : Nat, k ≤ len ∧ i = .int .i64 k ∧ Below w.heap.size w wr) (fun i _ => len - (intOf i).toNat)
  case atStart => exact ⟨0, Nat.zero_le _, rfl, below_drewN (Below.refl _ _) _⟩
  case round =>
    obtain ⟨k, hk, rfl, hb⟩ := hrel
    by_cases hlt : k < len
    · obtain ⟨b, off, rfl, hblt, hat⟩ := HO.out (by omega)
      obtain ⟨kk, op, x, y, c0, c1, c2, c3, hx, hy⟩ := hat k hlt
      have d0 := (hb.cell (p := ⟨b, off + k * 4, none⟩) hblt).trans c0
      have d1 := (hb.cell (p := ⟨b, off + k * 4 + 1, none⟩) hblt).trans c1
      have d2 := (hb.cell (p := ⟨b, off + k * 4 + 2, none⟩) hblt).trans c2
      have d3 := (hb.cell (p := ⟨b, off + k * 4 + 3, none⟩) hblt).trans c3
      clear hat c0 c1 c2 c3
      have A := Lib.hid (fun w => plays_any kk op x y w hx hy)
      have HB := Lib.hid hb
      clear hb hx hy
      have hlt' : (k : Int) < len := by omega
      go_wp2_with fail
      refine (A.out _).mono ?_; rintro e w1 ⟨rfl, hb1⟩
      have HB1 := Lib.hid (HB.out.trans (hb1.mono HB.out.size))
      clear hb1
      go_wp2
      go_roundw
      case rel => exact ⟨k + 1, by omega, by go_num, HB1.out⟩
      case measure => simp [intOf]; omega
    · go_wp2
      go_ret
      exact RetB.mk rfl hb
end Go.Proofs.Ytkgakpofophhjaa

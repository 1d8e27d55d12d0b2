/- Slices of integers that lie in memory, read as lists; what a call leaves of the world. Contracts of slices.Equal at int and int64. Contracts of cmp.Compare, cmp.Or, slices.Compare at int and int64. Contracts of cmp.Or, arr.Same, arr.Compare and of the law's own Eq. -/
import Derived.Test.YtdedbfbkakofgaaRows
import Derived.WalkKit
import Derived.WalkSpells
import Derived.WalkLawsBesides
import Derived.Lib.Hide
import Derived.Deep.QuietTactic
import Derived.BigQuiet
import Derived.StillTailTactics
namespace Go.Proofs.Ytdedbfbkakofgaa
open Go.RowKit
set_option linter.unusedVariables false
set_option linter.unusedSimpArgs false

theorem alloc_drewN (W : World) (n : Nat) (o : Obj) : (W.drewN n).alloc o = (W.alloc o).drewN n := rfl
theorem setCell_drewN (W : World) (n : Nat) (a : Addr) (v : Value) : (W.drewN n).setCell a v = (W.setCell a v).drewN n := rfl

/-- The call hands back v and has at most drawn. -/
def Ret (w : World) (v : Value) (e : Ending) (w' : World) : Prop := e = .returned v ∧ ∃ n, w' = w.drewN n
theorem Ret.mk {w : World} {v v' : Value} (n : Nat) (h : v' = v) : Ret w v (.returned v') (w.drewN n) := ⟨by rw [h], n, rfl⟩
theorem Ret.mk0 {w : World} {v v' : Value} (h : v' = v) : Ret w v (.returned v') w := ⟨by rw [h], 0, rfl⟩
theorem Ret.quiet {P : Program} {f : FuncId} {args : Array Value} {w : World} {n : Nat} {v : Value} (h : Calls P f args (w.drewN n) (Ret (w.drewN n) v)) :
    Calls P f args (w.drewN n) fun e w'' => e = .returned v ∧ ∃ m, w'' = w.drewN m := Calls.quiet_of h
theorem Ret.via {w W : World} {v v' : Value} {n : Nat} (h : w.drewN n = W) (m : Nat) (h2 : v' = v) : Ret w v (.returned v') (W.drewN m) := ⟨by rw [h2], n + m, by rw [← h, World.drewN_drewN]⟩
/-- The call hands back v and leaves the world as it is. -/
def RetS (w : World) (v : Value) (e : Ending) (w' : World) : Prop := e = .returned v ∧ w' = w
theorem RetS.mk {w : World} {v v' : Value} (h : v' = v) : RetS w v (.returned v') w := ⟨by rw [h], rfl⟩
theorem RetS.still {P : Program} {f : FuncId} {args : Array Value} {w : World} {v : Value} (h : Calls P f args w (RetS w v)) : Calls P f args w fun e w'' => e = .returned v ∧ w'' = w := h
/-- The call hands back v; what lay in memory lies as it lay. -/
def RetB (w : World) (v : Value) (e : Ending) (w' : World) : Prop := e = .returned v ∧ Below w.heap.size w w'
theorem RetB.mk {w w' : World} {v v' : Value} (h : v' = v) (hg : Below w.heap.size w w') : RetB w v (.returned v') w' := ⟨by rw [h], hg⟩
theorem Ret.toB {w : World} {v : Value} {e : Ending} {w' : World} (h : Ret w v e w') : RetB w v e w' := by
  obtain ⟨h1, n, rfl⟩ := h; exact ⟨h1, below_drewN (Below.refl _ _) _⟩
theorem intv {k : IntKind} {a b : Int} (h : a = b) : Value.int k a = Value.int k b := by rw [h]
theorem boolv {a b : Bool} (h : a = b) : Value.bool a = Value.bool b := by rw [h]

/-- A slice value, its address, length and capacity, reads as the list zs of 64-bit integers. -/
structure Ls (w : World) (ao : Option Addr) (n c : Nat) (zs : List Int) : Prop where
  len : zs.length = n
  cap : n ≤ c
  big : n * 8 ≤ 140737488351232
  top : c ≤ maxLen
  mem : 0 < n → ∃ b off, ao = some ⟨b, off, none⟩ ∧ b < w.heap.size ∧ ∀ i, i < n → w.cell? ⟨b, off + i, none⟩ = some (.int .i64 (zs.getD i 0))
  rng : ∀ i, -9223372036854775808 ≤ zs.getD i 0 ∧ zs.getD i 0 ≤ 9223372036854775807
theorem Ls.below {w w' : World} {ao : Option Addr} {n c : Nat} {zs : List Int} (h : Ls w ao n c zs) {B : Nat} (hb : Below B w w') (hB : w.heap.size ≤ B) : Ls w' ao n c zs :=
  ⟨h.len, h.cap, h.big, h.top, fun h0 => by
    obtain ⟨b, off, e, hlt, hc⟩ := h.mem h0
    exact ⟨b, off, e, by have := hb.size; omega, fun i hi => (hb.cell (p := ⟨b, off + i, none⟩) (by show b < B; omega)).trans (hc i hi)⟩, h.rng⟩
theorem Ls.drew {w : World} {ao : Option Addr} {n c : Nat} {zs : List Int} (h : Ls w ao n c zs) (m : Nat) : Ls (w.drewN m) ao n c zs :=
  ⟨h.len, h.cap, h.big, h.top, h.mem, h.rng⟩
/-- A slice that is read at an index. -/
theorem Ls.at {w : World} {ao : Option Addr} {n c : Nat} {zs : List Int} (h : Ls w ao n c zs) (h0 : 0 < n) :
    ∃ b off, ao = some ⟨b, off, none⟩ ∧ ∀ i, i < n → w.cell? ⟨b, off + i, none⟩ = some (.int .i64 (zs.getD i 0)) := by
  obtain ⟨b, off, e, _, hc⟩ := h.mem h0; exact ⟨b, off, e, hc⟩

/-- A region that draws its order, whose first n operations only read, the rest in one forced order: the world is named by its draw. -/
theorem region_tail {P : Program} {id : Nat} {Q : Exit → Act → World → Prop} {a : Act} {w : World} {l : List Oper} (n : Nat) (hm : P.follows .mixedOrders = true) (hB : Region.lexTailB .any l.toArray n = true)
    (h : wpStill P l.toArray w.drew (fun a' => wpList P l.toArray Q (l.drop n) a' w.drew) (l.take n) a) : (Code.region id l.toArray true).wp P Q a w :=
  wp_region_still_tail n hm hB h
end Go.Proofs.Ytdedbfbkakofgaa

namespace Go.Proofs.Ytdedbfbkakofgaa
open Go.RowKit
set_option linter.unusedVariables false
set_option linter.unusedSimpArgs false

theorem list_eq_of {xs ys : List Int} {n k : Nat} (hx : xs.length = n) (hy : ys.length = n) (h : ∀ i, i < k → xs.getD i 0 = ys.getD i 0) (hk : n ≤ k) : xs = ys := by
  apply List.ext_getElem (by omega)
  intro i h1 h2
  have := h i (by omega)
  simpa [List.getD, h1, h2] using this
set_option maxHeartbeats 800000 in
theorem equal_any {w : World} {a1 a2 : Option Addr} {n1 c1 n2 c2 : Nat} {xs ys : List Int} (h1 : Ls w a1 n1 c1 xs) (h2 : Ls w a2 n2 c2 ys) :
    Calls Try.prog 90 #[.slice a1 n1 c1, .slice a2 n2 c2] w (Ret w (.bool (decide (xs = ys)))) := by
  have l1 := h1.len
  have l2 := h2.len
  have g1 := h1.big
  have g2 := h2.big
  by_cases hn : n1 = n2
  · subst hn
    have HL1 := Lib.hid l1
    have HL2 := Lib.hid l2
    have hd : decide (n1 = n1) = true := by simp
    have he : ((n1 : Int) != n1) = false := by simp
    have H1 := Lib.hid h1
    have H2 := Lib.hid h2
    clear h1 h2 l1 l2 hd
    obtain ⟨r, HR⟩ : ∃ r, Hid (decide (xs = ys) = r) := ⟨_, rfl⟩
    rw [HR.out]
    go_enter Try.func90, Try.ntmps90
    go_wp2
    go_loopw [13] (fun i wr => ∃ k : Nat, k ≤ n1 ∧ i = .int .i64 k ∧ Hid (∀ j, j < k → xs.getD j 0 = ys.getD j 0) ∧ ∃ q, wr = w.drewN q) (fun i _ => n1 - (intOf i).toNat)
    case atStart => exact ⟨0, Nat.zero_le _, rfl, fun j hj => absurd hj (by omega), 0, rfl⟩
    case round =>
      obtain ⟨k, hk, rfl, hs, q, rfl⟩ := hrel
      by_cases hlt : k < n1
      · have hlt' : (k : Int) < n1 := by omega
        obtain ⟨b1, o1, rfl, hc1⟩ := H1.out.at (by omega)
        obtain ⟨b2, o2, rfl, hc2⟩ := H2.out.at (by omega)
        have d1 := hc1 k hlt
        have d2 := hc2 k hlt
        clear hc1 hc2
        obtain ⟨x, HX⟩ : ∃ x, Hid (xs.getD k 0 = x) := ⟨_, rfl⟩
        obtain ⟨y, HY⟩ : ∃ y, Hid (ys.getD k 0 = y) := ⟨_, rfl⟩
        rw [HX.out] at d1
        rw [HY.out] at d2
        by_cases hxy : x = y
        · subst hxy
          have hs' : Hid (∀ j, j < k + 1 → xs.getD j 0 = ys.getD j 0) := by
            intro j hj
            by_cases e : j = k
            · subst e; rw [HX.out, HY.out]
            · exact hs.out j (by omega)
          go_wp2
          go_quiet (fail)
          go_wp2
          go_roundw
          case rel => exact ⟨k + 1, by omega, by go_num, hs', _, rfl⟩
          case measure => simp [intOf]; omega
        · have hne : (x != y) = true := by simpa using hxy
          have hr : Hid (r = false) := by
            show r = false
            rw [← HR.out]
            simp only [decide_eq_false_iff_not]
            intro h
            exact hxy (by rw [← HX.out, ← HY.out, h])
          go_wp2
          go_quiet (fail)
          go_wp2
          go_ret
          exact Ret.via rfl _ (boolv hr.out.symm)
      · have hr : Hid (r = true) := by
          show r = true
          rw [← HR.out]
          simp only [decide_eq_true_eq]
          exact list_eq_of HL1.out HL2.out hs.out (by omega)
        have hge : (n1 : Int) ≤ k := by omega
        go_wp2
        go_ret
        exact Ret.mk _ (boolv hr.out.symm)
  · have hr : decide (xs = ys) = false := by simp; intro h; subst h; omega
    rw [hr]
    have hne : ((n1 : Int) != n2) = true := by simp; omega
    have hne' : (n1 != n2) = true := by simp; omega
    clear hr h1 h2 l1 l2
    go_enter Try.func90, Try.ntmps90
    go_wp2
    go_ret
    exact Ret.mk0 rfl
set_option maxHeartbeats 800000 in
theorem equal6_any {w : World} {a1 a2 : Option Addr} {n1 c1 n2 c2 : Nat} {xs ys : List Int} (h1 : Ls w a1 n1 c1 xs) (h2 : Ls w a2 n2 c2 ys) :
    Calls Try.prog 100 #[.slice a1 n1 c1, .slice a2 n2 c2] w (Ret w (.bool (decide (xs = ys)))) := by
  have l1 := h1.len
  have l2 := h2.len
  have g1 := h1.big
  have g2 := h2.big
  by_cases hn : n1 = n2
  · subst hn
    have HL1 := Lib.hid l1
    have HL2 := Lib.hid l2
    have hd : decide (n1 = n1) = true := by simp
    have he : ((n1 : Int) != n1) = false := by simp
    have H1 := Lib.hid h1
    have H2 := Lib.hid h2
    clear h1 h2 l1 l2 hd
    obtain ⟨r, HR⟩ : ∃ r, Hid (decide (xs = ys) = r) := ⟨_, rfl⟩
    rw [HR.out]
    go_enter Try.func100, Try.ntmps100
    go_wp2
    go_loopw [13] (fun i wr => ∃ k : Nat, k ≤ n1 ∧ i = .int .i64 k ∧ Hid (∀ j, j < k → xs.getD j 0 = ys.getD j 0) ∧ ∃ q, wr = w.drewN q) (fun i _ => n1 - (intOf i).toNat)
    case atStart => exact ⟨0, Nat.zero_le _, rfl, fun j hj => absurd hj (by omega), 0, rfl⟩
    case round =>
      obtain ⟨k, hk, rfl, hs, q, rfl⟩ := hrel
      by_cases hlt : k < n1
      · have hlt' : (k : Int) < n1 := by omega
        obtain ⟨b1, o1, rfl, hc1⟩ := H1.out.at (by omega)
        obtain ⟨b2, o2, rfl, hc2⟩ := H2.out.at (by omega)
        have d1 := hc1 k hlt
        have d2 := hc2 k hlt
        clear hc1 hc2
        obtain ⟨x, HX⟩ : ∃ x, Hid (xs.getD k 0 = x) := ⟨_, rfl⟩
        obtain ⟨y, HY⟩ : ∃ y, Hid (ys.getD k 0 = y) := ⟨_, rfl⟩
        rw [HX.out] at d1
        rw [HY.out] at d2
        by_cases hxy : x = y
        · subst hxy
          have hs' : Hid (∀ j, j < k + 1 → xs.getD j 0 = ys.getD j 0) := by
            intro j hj
            by_cases e : j = k
            · subst e; rw [HX.out, HY.out]
            · exact hs.out j (by omega)
          go_wp2
          go_quiet (fail)
          go_wp2
          go_roundw
          case rel => exact ⟨k + 1, by omega, by go_num, hs', _, rfl⟩
          case measure => simp [intOf]; omega
        · have hne : (x != y) = true := by simpa using hxy
          have hr : Hid (r = false) := by
            show r = false
            rw [← HR.out]
            simp only [decide_eq_false_iff_not]
            intro h
            exact hxy (by rw [← HX.out, ← HY.out, h])
          go_wp2
          go_quiet (fail)
          go_wp2
          go_ret
          exact Ret.via rfl _ (boolv hr.out.symm)
      · have hr : Hid (r = true) := by
          show r = true
          rw [← HR.out]
          simp only [decide_eq_true_eq]
          exact list_eq_of HL1.out HL2.out hs.out (by omega)
        have hge : (n1 : Int) ≤ k := by omega
        go_wp2
        go_ret
        exact Ret.mk _ (boolv hr.out.symm)
  · have hr : decide (xs = ys) = false := by simp; intro h; subst h; omega
    rw [hr]
    have hne : ((n1 : Int) != n2) = true := by simp; omega
    have hne' : (n1 != n2) = true := by simp; omega
    clear hr h1 h2 l1 l2
    go_enter Try.func100, Try.ntmps100
    go_wp2
    go_ret
    exact Ret.mk0 rfl
end Go.Proofs.Ytdedbfbkakofgaa

namespace Go.Proofs.Ytdedbfbkakofgaa
open Go.RowKit
set_option linter.unusedVariables false
set_option linter.unusedSimpArgs false

def cmpI (a b : Int) : Int := if a < b then -1 else if b < a then 1 else 0
theorem cmpI_lt {a b : Int} (h : a < b) : cmpI a b = -1 := by simp [cmpI, h]
theorem cmpI_gt {a b : Int} (h : b < a) : cmpI a b = 1 := by simp [cmpI, h]; omega
theorem cmpI_eq (a : Int) : cmpI a a = 0 := by simp [cmpI]
theorem cmpI_zero {a b : Int} : cmpI a b = 0 ↔ a = b := by
  unfold cmpI; split
  · constructor <;> intro h <;> omega
  · split
    · constructor <;> intro h <;> omega
    · constructor <;> intro h <;> omega
def cmpL : List Int → List Int → Int
  | [], [] => 0
  | [], _ :: _ => -1
  | _ :: _, [] => 1
  | x :: xs, y :: ys => if x < y then -1 else if y < x then 1 else cmpL xs ys
theorem cmpL_step {xs ys : List Int} {k : Nat} (h1 : k < xs.length) (h2 : k < ys.length) :
    cmpL (xs.drop k) (ys.drop k) = if xs.getD k 0 < ys.getD k 0 then -1 else if ys.getD k 0 < xs.getD k 0 then 1 else cmpL (xs.drop (k + 1)) (ys.drop (k + 1)) := by
  rw [List.drop_eq_getElem_cons h1, List.drop_eq_getElem_cons h2]
  simp only [List.getD, List.getElem?_eq_getElem h1, List.getElem?_eq_getElem h2, Option.getD_some]
  rfl
theorem cmpL_long {xs ys : List Int} {k : Nat} (h1 : k < xs.length) (h2 : ys.length ≤ k) : cmpL (xs.drop k) (ys.drop k) = 1 := by
  rw [List.drop_eq_getElem_cons h1, List.drop_eq_nil_of_le h2]; rfl
theorem cmpL_end {xs ys : List Int} {k : Nat} (h1 : xs.length ≤ k) : cmpL (xs.drop k) (ys.drop k) = if k < ys.length then -1 else 0 := by
  rw [List.drop_eq_nil_of_le h1]
  by_cases h : k < ys.length
  · rw [if_pos h, List.drop_eq_getElem_cons h]; rfl
  · rw [if_neg h, List.drop_eq_nil_of_le (by omega)]; rfl
set_option maxHeartbeats 400000 in
theorem compare_any (a b : Int) (w : World) : Calls Try.prog 102 #[.int .i64 a, .int .i64 b] w (RetS w (.int .i64 (cmpI a b))) := by
  rcases (show a < b ∨ a = b ∨ b < a by omega) with h | rfl | h
  · rw [cmpI_lt h]
    go_enter Try.func102, Try.ntmps102
    go_wp2
    go_ret
    exact RetS.mk rfl
  · rw [cmpI_eq]
    go_enter Try.func102, Try.ntmps102
    go_wp2
    go_ret
    exact RetS.mk rfl
  · rw [cmpI_gt h]
    go_enter Try.func102, Try.ntmps102
    go_wp2
    go_ret
    exact RetS.mk rfl
set_option maxHeartbeats 400000 in
theorem compare6_any (a b : Int) (w : World) : Calls Try.prog 129 #[.int .i64 a, .int .i64 b] w (RetS w (.int .i64 (cmpI a b))) := by
  rcases (show a < b ∨ a = b ∨ b < a by omega) with h | rfl | h
  · rw [cmpI_lt h]
    go_enter Try.func129, Try.ntmps129
    go_wp2
    go_ret
    exact RetS.mk rfl
  · rw [cmpI_eq]
    go_enter Try.func129, Try.ntmps129
    go_wp2
    go_ret
    exact RetS.mk rfl
  · rw [cmpI_gt h]
    go_enter Try.func129, Try.ntmps129
    go_wp2
    go_ret
    exact RetS.mk rfl
set_option maxHeartbeats 800000 in
theorem scompare_any {w : World} {a1 a2 : Option Addr} {n1 c1 n2 c2 : Nat} {xs ys : List Int} (h1 : Ls w a1 n1 c1 xs) (h2 : Ls w a2 n2 c2 ys) :
    Calls Try.prog 103 #[.slice a1 n1 c1, .slice a2 n2 c2] w (RetS w (.int .i64 (cmpL xs ys))) := by
  have l1 := Lib.hid h1.len
  have l2 := Lib.hid h2.len
  have g1 := h1.big
  have g2 := h2.big
  have H1 := Lib.hid h1
  have H2 := Lib.hid h2
  clear h1 h2
  obtain ⟨r, HR⟩ : ∃ r, Hid (cmpL xs ys = r) := ⟨_, rfl⟩
  rw [HR.out]
  go_enter Try.func103, Try.ntmps103
  go_wp2
  go_loop [11] (fun i => ∃ k : Nat, k ≤ n1 ∧ k ≤ n2 ∧ i = .int .i64 k ∧ Hid (cmpL (xs.drop k) (ys.drop k) = r)) (fun i => n1 - (intOf i).toNat)
  case atStart => exact ⟨0, Nat.zero_le _, Nat.zero_le _, rfl, HR⟩
  case round =>
    obtain ⟨k, hk1, hk2, rfl, hs⟩ := hrel
    by_cases hlt : k < n1
    · have hlt' : (k : Int) < n1 := by omega
      obtain ⟨b1, o1, rfl, hc1⟩ := H1.out.at (by omega)
      have d1 := hc1 k hlt
      clear hc1
      obtain ⟨x, HX⟩ : ∃ x, Hid (xs.getD k 0 = x) := ⟨_, rfl⟩
      rw [HX.out] at d1
      by_cases hge : k < n2
      · have hge' : (k : Int) < n2 := by omega
        obtain ⟨b2, o2, rfl, hc2⟩ := H2.out.at (by omega)
        have d2 := hc2 k hge
        clear hc2
        obtain ⟨y, HY⟩ : ∃ y, Hid (ys.getD k 0 = y) := ⟨_, rfl⟩
        rw [HY.out] at d2
        have hst := cmpL_step (xs := xs) (ys := ys) (k := k) (by rw [l1.out]; exact hlt) (by rw [l2.out]; exact hge)
        rw [hs.out, HX.out, HY.out] at hst
        have HST := Lib.hid hst
        clear hst
        have A := Lib.hid (fun w => compare_any x y w)
        rcases (show x < y ∨ x = y ∨ y < x by omega) with h | rfl | h
        · have HF : Hid (r = -1) := by show _ = _; rw [HST.out, if_pos h]
          rw [cmpI_lt h] at A
          go_wp2_with fail
          refine (A.out _).mono ?_; rintro e w' ⟨rfl, rfl⟩
          go_wp2
          go_ret
          exact RetS.mk (intv HF.out.symm)
        · have HF : Hid (cmpL (xs.drop (k + 1)) (ys.drop (k + 1)) = r) := by show _ = _; rw [HST.out, if_neg (by omega), if_neg (by omega)]
          rw [cmpI_eq] at A
          go_wp2_with fail
          refine (A.out _).mono ?_; rintro e w' ⟨rfl, rfl⟩
          go_wp2
          go_round
          case rel => exact ⟨k + 1, by omega, by omega, by go_num, HF⟩
          case measure => simp [intOf]; omega
        · have HF : Hid (r = 1) := by show _ = _; rw [HST.out, if_neg (by omega), if_pos h]
          rw [cmpI_gt h] at A
          go_wp2_with fail
          refine (A.out _).mono ?_; rintro e w' ⟨rfl, rfl⟩
          go_wp2
          go_ret
          exact RetS.mk (intv HF.out.symm)
      · have hge' : (n2 : Int) ≤ k := by omega
        have HF : Hid (r = 1) := by show _ = _; rw [← hs.out]; exact cmpL_long (by rw [l1.out]; exact hlt) (by rw [l2.out]; omega)
        go_wp2
        go_ret
        exact RetS.mk (intv HF.out.symm)
    · have hkn : k = n1 := by omega
      subst hkn
      have HF : Hid (r = if k < n2 then -1 else 0) := by show _ = _; rw [← hs.out, cmpL_end (by rw [l1.out]; omega), l2.out]
      by_cases hge : k < n2
      · have HF2 : Hid (r = -1) := by show _ = _; rw [HF.out, if_pos hge]
        have hd : decide (k < n2) = true := by simpa using hge
        go_wp2
        go_ret
        exact RetS.mk (intv HF2.out.symm)
      · have HF2 : Hid (r = 0) := by show _ = _; rw [HF.out, if_neg hge]
        have hd : decide (k < n2) = false := by simp; omega
        have hge' : (n2 : Int) ≤ k := by omega
        go_wp2
        go_ret
        exact RetS.mk (intv HF2.out.symm)
set_option maxHeartbeats 800000 in
theorem scompare6_any {w : World} {a1 a2 : Option Addr} {n1 c1 n2 c2 : Nat} {xs ys : List Int} (h1 : Ls w a1 n1 c1 xs) (h2 : Ls w a2 n2 c2 ys) :
    Calls Try.prog 104 #[.slice a1 n1 c1, .slice a2 n2 c2] w (RetS w (.int .i64 (cmpL xs ys))) := by
  have l1 := Lib.hid h1.len
  have l2 := Lib.hid h2.len
  have g1 := h1.big
  have g2 := h2.big
  have H1 := Lib.hid h1
  have H2 := Lib.hid h2
  clear h1 h2
  obtain ⟨r, HR⟩ : ∃ r, Hid (cmpL xs ys = r) := ⟨_, rfl⟩
  rw [HR.out]
  go_enter Try.func104, Try.ntmps104
  go_wp2
  go_loop [11] (fun i => ∃ k : Nat, k ≤ n1 ∧ k ≤ n2 ∧ i = .int .i64 k ∧ Hid (cmpL (xs.drop k) (ys.drop k) = r)) (fun i => n1 - (intOf i).toNat)
  case atStart => exact ⟨0, Nat.zero_le _, Nat.zero_le _, rfl, HR⟩
  case round =>
    obtain ⟨k, hk1, hk2, rfl, hs⟩ := hrel
    by_cases hlt : k < n1
    · have hlt' : (k : Int) < n1 := by omega
      obtain ⟨b1, o1, rfl, hc1⟩ := H1.out.at (by omega)
      have d1 := hc1 k hlt
      clear hc1
      obtain ⟨x, HX⟩ : ∃ x, Hid (xs.getD k 0 = x) := ⟨_, rfl⟩
      rw [HX.out] at d1
      by_cases hge : k < n2
      · have hge' : (k : Int) < n2 := by omega
        obtain ⟨b2, o2, rfl, hc2⟩ := H2.out.at (by omega)
        have d2 := hc2 k hge
        clear hc2
        obtain ⟨y, HY⟩ : ∃ y, Hid (ys.getD k 0 = y) := ⟨_, rfl⟩
        rw [HY.out] at d2
        have hst := cmpL_step (xs := xs) (ys := ys) (k := k) (by rw [l1.out]; exact hlt) (by rw [l2.out]; exact hge)
        rw [hs.out, HX.out, HY.out] at hst
        have HST := Lib.hid hst
        clear hst
        have A := Lib.hid (fun w => compare6_any x y w)
        rcases (show x < y ∨ x = y ∨ y < x by omega) with h | rfl | h
        · have HF : Hid (r = -1) := by show _ = _; rw [HST.out, if_pos h]
          rw [cmpI_lt h] at A
          go_wp2_with fail
          refine (A.out _).mono ?_; rintro e w' ⟨rfl, rfl⟩
          go_wp2
          go_ret
          exact RetS.mk (intv HF.out.symm)
        · have HF : Hid (cmpL (xs.drop (k + 1)) (ys.drop (k + 1)) = r) := by show _ = _; rw [HST.out, if_neg (by omega), if_neg (by omega)]
          rw [cmpI_eq] at A
          go_wp2_with fail
          refine (A.out _).mono ?_; rintro e w' ⟨rfl, rfl⟩
          go_wp2
          go_round
          case rel => exact ⟨k + 1, by omega, by omega, by go_num, HF⟩
          case measure => simp [intOf]; omega
        · have HF : Hid (r = 1) := by show _ = _; rw [HST.out, if_neg (by omega), if_pos h]
          rw [cmpI_gt h] at A
          go_wp2_with fail
          refine (A.out _).mono ?_; rintro e w' ⟨rfl, rfl⟩
          go_wp2
          go_ret
          exact RetS.mk (intv HF.out.symm)
      · have hge' : (n2 : Int) ≤ k := by omega
        have HF : Hid (r = 1) := by show _ = _; rw [← hs.out]; exact cmpL_long (by rw [l1.out]; exact hlt) (by rw [l2.out]; omega)
        go_wp2
        go_ret
        exact RetS.mk (intv HF.out.symm)
    · have hkn : k = n1 := by omega
      subst hkn
      have HF : Hid (r = if k < n2 then -1 else 0) := by show _ = _; rw [← hs.out, cmpL_end (by rw [l1.out]; omega), l2.out]
      by_cases hge : k < n2
      · have HF2 : Hid (r = -1) := by show _ = _; rw [HF.out, if_pos hge]
        have hd : decide (k < n2) = true := by simpa using hge
        go_wp2
        go_ret
        exact RetS.mk (intv HF2.out.symm)
      · have HF2 : Hid (r = 0) := by show _ = _; rw [HF.out, if_neg hge]
        have hd : decide (k < n2) = false := by simp; omega
        have hge' : (n2 : Int) ≤ k := by omega
        go_wp2
        go_ret
        exact RetS.mk (intv HF2.out.symm)
end Go.Proofs.Ytdedbfbkakofgaa

namespace Go.Proofs.Ytdedbfbkakofgaa
open Go.RowKit
set_option linter.unusedVariables false
set_option linter.unusedSimpArgs false
attribute [local go_sem] alloc_drewN setCell_drewN

def orL : List Int → Int
  | [] => 0
  | x :: xs => if x = 0 then orL xs else x
theorem orL_step {xs : List Int} {k : Nat} (h : k < xs.length) : orL (xs.drop k) = if xs.getD k 0 = 0 then orL (xs.drop (k + 1)) else xs.getD k 0 := by
  rw [List.drop_eq_getElem_cons h]
  simp only [List.getD, List.getElem?_eq_getElem h, Option.getD_some]
  rfl
set_option maxHeartbeats 400000 in
theorem or_any {w : World} {a1 : Option Addr} {n1 c1 : Nat} {xs : List Int} (h1 : Ls w a1 n1 c1 xs) :
    Calls Try.prog 101 #[.slice a1 n1 c1] w (Ret w (.int .i64 (orL xs))) := by
  have l1 := Lib.hid h1.len
  have g1 := h1.big
  have H1 := Lib.hid h1
  clear h1
  obtain ⟨r, HR⟩ : ∃ r, Hid (orL xs = r) := ⟨_, rfl⟩
  rw [HR.out]
  go_enter Try.func101, Try.ntmps101
  go_wp2
  go_loopw [8] (fun i wr => ∃ k : Nat, k ≤ n1 ∧ i = .int .i64 k ∧ Hid (orL (xs.drop k) = r) ∧ ∃ q, wr = w.drewN q) (fun i _ => n1 - (intOf i).toNat)
  case atStart => exact ⟨0, Nat.zero_le _, rfl, HR, 0, rfl⟩
  case round =>
    obtain ⟨k, hk1, rfl, hs, q, rfl⟩ := hrel
    by_cases hlt : k < n1
    · have hlt' : (k : Int) < n1 := by omega
      obtain ⟨b1, o1, rfl, hc1⟩ := H1.out.at (by omega)
      have d1 := hc1 k hlt
      clear hc1
      obtain ⟨x, HX⟩ : ∃ x, Hid (xs.getD k 0 = x) := ⟨_, rfl⟩
      rw [HX.out] at d1
      have hst := orL_step (xs := xs) (k := k) (by rw [l1.out]; exact hlt)
      rw [hs.out, HX.out] at hst
      have HST := Lib.hid hst
      clear hst
      by_cases hx : x = 0
      · subst hx
        have HF : Hid (orL (xs.drop (k + 1)) = r) := by show _ = _; rw [HST.out, if_pos rfl]
        go_wp2
        go_roundw
        case rel => exact ⟨k + 1, by omega, by go_num, HF, _, rfl⟩
        case measure => simp [intOf]; omega
      · have HF : Hid (r = x) := by show _ = _; rw [HST.out, if_neg hx]
        have hx' : (x != 0) = true := by simpa using hx
        go_wp2
        go_ret
        exact Ret.mk _ (intv HF.out.symm)
    · have hkn : k = n1 := by omega
      subst hkn
      have HF : Hid (r = 0) := by show _ = _; rw [← hs.out, List.drop_eq_nil_of_le (by rw [l1.out]; omega)]; rfl
      go_wp2
      go_ret
      exact Ret.mk _ (intv HF.out.symm)

/-- An array: two slices, its shape and its atoms. -/
structure Ar where
  (sa : Option Addr)
  (sn sc : Nat)
  (aa : Option Addr)
  (an ac : Nat)
  (s a : List Int)
def Ar.v (A : Ar) : Value := .agg #[.slice A.sa A.sn A.sc, .slice A.aa A.an A.ac]
structure Ar.Is (A : Ar) (w : World) : Prop where
  shp : Ls w A.sa A.sn A.sc A.s
  ats : Ls w A.aa A.an A.ac A.a
theorem Ar.Is.below {A : Ar} {w w' : World} (h : A.Is w) {B : Nat} (hb : Below B w w') (hB : w.heap.size ≤ B) : A.Is w' := ⟨h.shp.below hb hB, h.ats.below hb hB⟩
theorem below_two (w : World) (A B : Array Value) (t u : TypeId) (n : Nat) : Below w.heap.size w (((w.alloc (.cells A t)).alloc (.cells B u)).drewN n) :=
  below_drewN (((Below.refl _ _).alloc (Nat.le_refl _) _).alloc (by simp) _) n
set_option maxHeartbeats 400000 in
theorem same_any {w : World} {A B : Ar} (hA : A.Is w) (hB : B.Is w) :
    Calls Try.prog 63 #[A.v, B.v] w (RetB w (.bool (decide (A.s = B.s ∧ A.a = B.a)))) := by
  obtain ⟨sa, sn, sc, aa, an, ac, s, a⟩ := A
  obtain ⟨ta, tn, tc, ba, bn, bc, t, b⟩ := B
  obtain ⟨h1, h2⟩ := hA
  obtain ⟨h3, h4⟩ := hB
  simp only [Ar.v] at *
  have hw : ∀ n, Below w.heap.size w (((w.alloc (.cells #[.slice sa sn sc, .slice aa an ac] 55)).alloc (.cells #[.slice ta tn tc, .slice ba bn bc] 55)).drewN n) := fun n => below_two _ _ _ _ _ _
  have E1 := Lib.hid (fun n => equal_any (h1.below (hw n) (Nat.le_refl _)) (h3.below (hw n) (Nat.le_refl _)))
  have E2 := Lib.hid (fun n => equal6_any (h2.below (hw n) (Nat.le_refl _)) (h4.below (hw n) (Nat.le_refl _)))
  have HW := Lib.hid hw
  clear hw h1 h2 h3 h4
  go_enter Try.func63, Try.ntmps63
  go_wp2_with fail
  refine (E1.out 0).mono ?_; rintro e w' ⟨rfl, n1, rfl⟩
  by_cases hs : s = t
  · have hd : decide (s = t) = true := by simpa using hs
    rw [hd]
    have HF : Hid (decide (s = t ∧ a = b) = decide (a = b)) := by show _ = _; simp [hs]
    clear hs hd
    go_wp2_with fail
    refine (E2.out n1).mono ?_; rintro e w' ⟨rfl, n2, rfl⟩
    go_wp2
    go_ret
    exact RetB.mk (boolv HF.out.symm) (HW.out (n1 + n2))
  · have hd : decide (s = t) = false := by simpa using hs
    rw [hd]
    have HF : Hid (decide (s = t ∧ a = b) = false) := by show _ = _; simp [hs]
    clear hs hd
    go_wp2
    go_ret
    exact RetB.mk (boolv HF.out.symm) (HW.out n1)
theorem cmpI_bd (a b : Int) : -1 ≤ cmpI a b ∧ cmpI a b ≤ 1 := by
  unfold cmpI; split
  · omega
  · split <;> omega
theorem cmpL_bd : ∀ xs ys : List Int, -1 ≤ cmpL xs ys ∧ cmpL xs ys ≤ 1
  | [], [] => by simp [cmpL]
  | [], _ :: _ => by simp [cmpL]
  | _ :: _, [] => by simp [cmpL]
  | x :: xs, y :: ys => by
    unfold cmpL; split
    · omega
    · split
      · omega
      · exact cmpL_bd xs ys
theorem ls_new3 (W : World) {x y z : Int} (hx : -1 ≤ x ∧ x ≤ 1) (hy : -1 ≤ y ∧ y ≤ 1) (hz : -1 ≤ z ∧ z ≤ 1) :
    Ls (W.alloc (.cells #[.int .i64 x, .int .i64 y, .int .i64 z] 3)) (some ⟨W.heap.size, 0, none⟩) 3 3 [x, y, z] := by
  refine ⟨rfl, by omega, by omega, by simp [maxLen], fun _ => ⟨W.heap.size, 0, rfl, by simp, fun i hi => ?_⟩, fun i => ?_⟩
  · rw [World.cell?_alloc_at _ _ _ _ rfl]
    match i, hi with
    | 0, _ => rfl
    | 1, _ => rfl
    | 2, _ => rfl
  · match i with
    | 0 => exact ⟨by show _ ≤ x; omega, by show x ≤ _; omega⟩
    | 1 => exact ⟨by show _ ≤ y; omega, by show y ≤ _; omega⟩
    | 2 => exact ⟨by show _ ≤ z; omega, by show z ≤ _; omega⟩
    | i + 3 => exact ⟨by simp [List.getD], by simp [List.getD]⟩
theorem or3_any (W : World) {x y z : Int} (hx : -1 ≤ x ∧ x ≤ 1) (hy : -1 ≤ y ∧ y ≤ 1) (hz : -1 ≤ z ∧ z ≤ 1) :
    Calls Try.prog 101 #[.slice (some ⟨W.heap.size, 0, none⟩) 3 3] (W.alloc (.cells #[.int .i64 x, .int .i64 y, .int .i64 z] 3)).drew (Ret (W.alloc (.cells #[.int .i64 x, .int .i64 y, .int .i64 z] 3)).drew (.int .i64 (orL [x, y, z]))) :=
  or_any ((ls_new3 W hx hy hz).drew 1)
def cmpA (A B : Ar) : Int := orL [cmpI A.sn B.sn, cmpL A.s B.s, cmpL A.a B.a]
set_option maxRecDepth 100000 in
set_option maxHeartbeats 800000 in
theorem acompare_any {w : World} {A B : Ar} (hA : A.Is w) (hB : B.Is w) :
    Calls Try.prog 64 #[A.v, B.v] w (RetB w (.int .i64 (cmpA A B))) := by
  obtain ⟨sa, sn, sc, aa, an, ac, s, a⟩ := A
  obtain ⟨ta, tn, tc, ba, bn, bc, t, b⟩ := B
  obtain ⟨h1, h2⟩ := hA
  obtain ⟨h3, h4⟩ := hB
  simp only [Ar.v, cmpA] at *
  have hw : ∀ n, Below w.heap.size w (((w.alloc (.cells #[.slice sa sn sc, .slice aa an ac] 55)).alloc (.cells #[.slice ta tn tc, .slice ba bn bc] 55)).drewN n) := fun n => below_two _ _ _ _ _ _
  have E1 := Lib.hid (fun n => scompare_any (h1.below (hw n) (Nat.le_refl _)) (h3.below (hw n) (Nat.le_refl _)))
  have E2 := Lib.hid (fun n => scompare6_any (h2.below (hw n) (Nat.le_refl _)) (h4.below (hw n) (Nat.le_refl _)))
  have E0 := Lib.hid (fun w => compare_any sn tn w)
  have HW := Lib.hid hw
  clear hw h1 h2 h3 h4
  obtain ⟨x1, X1⟩ : ∃ x, Hid (cmpI sn tn = x) := ⟨_, rfl⟩
  obtain ⟨x2, X2⟩ : ∃ x, Hid (cmpL s t = x) := ⟨_, rfl⟩
  obtain ⟨x3, X3⟩ : ∃ x, Hid (cmpL a b = x) := ⟨_, rfl⟩
  rw [X1.out] at E0
  rw [X2.out] at E1
  rw [X3.out] at E2
  rw [X1.out, X2.out, X3.out]
  have bx := cmpI_bd sn tn
  have by' := cmpL_bd s t
  have bz := cmpL_bd a b
  rw [X1.out] at bx
  rw [X2.out] at by'
  rw [X3.out] at bz
  have EO := Lib.hid (fun w => or3_any w bx by' bz)
  clear bx by' bz
  go_enter Try.func64, Try.ntmps64
  go_wp2_with fail
  obtain ⟨W, HWW⟩ : ∃ W, Hid ((w.alloc (.cells #[.slice sa sn sc, .slice aa an ac] 55)).alloc (.cells #[.slice ta tn tc, .slice ba bn bc] 55) = W) := ⟨_, rfl⟩
  have c0 : W.cell? ⟨w.heap.size, 0, none⟩ = some (.slice sa sn sc) := by rw [← HWW.out]; simp [go_sem]
  have c1 : W.cell? ⟨w.heap.size, 1, none⟩ = some (.slice aa an ac) := by rw [← HWW.out]; simp [go_sem]
  have c2 : W.cell? ⟨w.heap.size + 1, 0, none⟩ = some (.slice ta tn tc) := by rw [← HWW.out]; simp [go_sem]
  have c3 : W.cell? ⟨w.heap.size + 1, 1, none⟩ = some (.slice ba bn bc) := by rw [← HWW.out]; simp [go_sem]
  have sz : w.heap.size + 2 = W.heap.size := by rw [← HWW.out]; simp
  have SZ := Lib.hid sz
  clear sz
  rw [HWW.out] at E1 E2 HW ⊢
  refine region_tail 17 (by kernel_rfl) (by kernel_rfl) ?_
  simp only [List.take_succ_cons, List.take_zero, List.drop_succ_cons, List.drop_zero]
  iterate 6 still_step
  still_call (RetS.still (E0.out _))
  iterate 4 still_step
  still_call (RetS.still (E1.out 1))
  iterate 4 still_step
  still_call (RetS.still (E2.out 1))
  refine wpStill_nil ?_
  go_wp2_with fail
  refine (EO.out W).mono ?_; rintro e w' ⟨rfl, n1, rfl⟩
  go_wp2
  go_ret
  exact RetB.mk rfl (below_drewN (Below.alloc (show Below w.heap.size w W from HW.out 0) (by have := SZ.out; omega) _) _)
set_option maxHeartbeats 1600000 in
theorem eq_any {w : World} {A B : Ar} (hA : A.Is w) (hB : B.Is w) :
    Calls Try.prog 27 #[A.v, B.v] w (RetB w (.bool (decide (A.s = B.s ∧ A.a = B.a)))) := by
  obtain ⟨sa, sn, sc, aa, an, ac, s, a⟩ := A
  obtain ⟨ta, tn, tc, ba, bn, bc, t, b⟩ := B
  obtain ⟨h1, h2⟩ := hA
  obtain ⟨h3, h4⟩ := hB
  simp only [Ar.v] at *
  have l1 := h1.len
  have l2 := h2.len
  have l3 := h3.len
  have l4 := h4.len
  have g1 := h1.big
  have g2 := h2.big
  have g3 := h3.big
  have g4 := h4.big
  obtain ⟨r, HR⟩ : ∃ r, Hid (decide (s = t ∧ a = b) = r) := ⟨_, rfl⟩
  rw [HR.out]
  by_cases hst : ¬ sn = tn
  · have hr : Hid (r = false) := by
      show r = false
      rw [← HR.out]; simp only [decide_eq_false_iff_not]
      rintro ⟨rfl, _⟩; omega
    have hne : ((sn : Int) != tn) = true := by simp; omega
    have hne' : (sn != tn) = true := by simp; omega
    clear l1 l2 l3 l4 h1 h2 h3 h4 hst
    go_enter Try.func27, Try.ntmps27
    go_wp2
    go_ret
    exact RetB.mk (boolv hr.out.symm) (below_two _ _ _ _ _ 0)
  have hst' : sn = tn := by omega
  subst hst'
  clear hst
  by_cases hab : ¬ an = bn
  · have hr : Hid (r = false) := by
      show r = false
      rw [← HR.out]; simp only [decide_eq_false_iff_not]
      rintro ⟨_, rfl⟩; omega
    have hne : ((an : Int) != bn) = true := by simp; omega
    have hne' : (an != bn) = true := by simp; omega
    clear l1 l2 l3 l4 h1 h2 h3 h4 hab
    go_enter Try.func27, Try.ntmps27
    go_wp2
    go_ret
    exact RetB.mk (boolv hr.out.symm) (below_two _ _ _ _ _ 0)
  have hab' : an = bn := by omega
  subst hab'
  clear hab
  obtain ⟨W, HWW⟩ : ∃ W, Hid ((w.alloc (.cells #[.slice sa sn sc, .slice aa an ac] 55)).alloc (.cells #[.slice ta sn tc, .slice ba an bc] 55) = W) := ⟨_, rfl⟩
  have hw : Below w.heap.size w W := by rw [← HWW.out]; exact below_two _ _ _ _ _ 0
  have c0 : W.cell? ⟨w.heap.size, 0, none⟩ = some (.slice sa sn sc) := by rw [← HWW.out]; simp [go_sem]
  have c1 : W.cell? ⟨w.heap.size, 1, none⟩ = some (.slice aa an ac) := by rw [← HWW.out]; simp [go_sem]
  have c2 : W.cell? ⟨w.heap.size + 1, 0, none⟩ = some (.slice ta sn tc) := by rw [← HWW.out]; simp [go_sem]
  have c3 : W.cell? ⟨w.heap.size + 1, 1, none⟩ = some (.slice ba an bc) := by rw [← HWW.out]; simp [go_sem]
  have H1 := Lib.hid (h1.below hw (Nat.le_refl _))
  have H2 := Lib.hid (h2.below hw (Nat.le_refl _))
  have H3 := Lib.hid (h3.below hw (Nat.le_refl _))
  have H4 := Lib.hid (h4.below hw (Nat.le_refl _))
  have L1 := Lib.hid l1
  have L2 := Lib.hid l2
  have L3 := Lib.hid l3
  have L4 := Lib.hid l4
  have HW := Lib.hid hw
  have q1 : ((sn : Int) != sn) = false := by simp
  have q2 : ((an : Int) != an) = false := by simp
  clear h1 h2 h3 h4 l1 l2 l3 l4 hw
  go_enter Try.func27, Try.ntmps27
  go_wp2
  rw [HWW.out]
  clear q1 q2
  go_loopw [5] (fun i wr => ∃ k : Nat, k ≤ sn ∧ i = .int .i64 k ∧ Hid (∀ j, j < k → s.getD j 0 = t.getD j 0) ∧ ∃ q, wr = W.drewN q) (fun i _ => sn - (intOf i).toNat)
  case atStart => exact ⟨0, Nat.zero_le _, rfl, fun j hj => absurd hj (by omega), 0, rfl⟩
  case round =>
    obtain ⟨k, hk, rfl, hs, q, rfl⟩ := hrel
    by_cases hlt : k < sn
    · have hlt' : (k : Int) < sn := by omega
      obtain ⟨b1, o1, rfl, hc1⟩ := H1.out.at (by omega)
      obtain ⟨b2, o2, rfl, hc2⟩ := H3.out.at (by omega)
      have d1 := hc1 k hlt
      have d2 := hc2 k hlt
      clear hc1 hc2
      obtain ⟨x, HX⟩ : ∃ x, Hid (s.getD k 0 = x) := ⟨_, rfl⟩
      obtain ⟨y, HY⟩ : ∃ y, Hid (t.getD k 0 = y) := ⟨_, rfl⟩
      rw [HX.out] at d1
      rw [HY.out] at d2
      by_cases hxy : x = y
      · subst hxy
        have hs' : Hid (∀ j, j < k + 1 → s.getD j 0 = t.getD j 0) := by
          intro j hj
          by_cases e : j = k
          · subst e; rw [HX.out, HY.out]
          · exact hs.out j (by omega)
        go_wp2
        go_quiet (fail)
        go_wp2
        go_roundw
        case rel => exact ⟨k + 1, by omega, by go_num, hs', _, rfl⟩
        case measure => simp [intOf]; omega
      · have hne : (x != y) = true := by simpa using hxy
        have hr : Hid (r = false) := by
          show r = false
          rw [← HR.out]
          simp only [decide_eq_false_iff_not]
          rintro ⟨h, _⟩
          exact hxy (by rw [← HX.out, ← HY.out, h])
        go_wp2
        go_quiet (fail)
        go_wp2
        go_ret
        exact RetB.mk (boolv hr.out.symm) (below_drewN (below_drewN HW.out _) _)
    · have hst : Hid (s = t) := list_eq_of L1.out L3.out hs.out (by omega)
      have hge : (sn : Int) ≤ k := by omega
      clear hs hlt
      go_wp2
      go_loopw [6] (fun i wr => ∃ k : Nat, k ≤ an ∧ i = .int .i64 k ∧ Hid (∀ j, j < k → a.getD j 0 = b.getD j 0) ∧ ∃ q, wr = W.drewN q) (fun i _ => an - (intOf i).toNat)
      case atStart => exact ⟨0, Nat.zero_le _, rfl, fun j hj => absurd hj (by omega), q, rfl⟩
      case round =>
        obtain ⟨k2, hk2, rfl, hs, q2, rfl⟩ := hrel
        by_cases hlt : k2 < an
        · have hlt' : (k2 : Int) < an := by omega
          obtain ⟨b1, o1, rfl, hc1⟩ := H2.out.at (by omega)
          obtain ⟨b2, o2, rfl, hc2⟩ := H4.out.at (by omega)
          have d1 := hc1 k2 hlt
          have d2 := hc2 k2 hlt
          clear hc1 hc2
          obtain ⟨x, HX⟩ : ∃ x, Hid (a.getD k2 0 = x) := ⟨_, rfl⟩
          obtain ⟨y, HY⟩ : ∃ y, Hid (b.getD k2 0 = y) := ⟨_, rfl⟩
          rw [HX.out] at d1
          rw [HY.out] at d2
          by_cases hxy : x = y
          · subst hxy
            have hs' : Hid (∀ j, j < k2 + 1 → a.getD j 0 = b.getD j 0) := by
              intro j hj
              by_cases e : j = k2
              · subst e; rw [HX.out, HY.out]
              · exact hs.out j (by omega)
            go_wp2
            go_quiet (fail)
            go_wp2
            go_roundw
            case rel => exact ⟨k2 + 1, by omega, by go_num, hs', _, rfl⟩
            case measure => simp [intOf]; omega
          · have hne : (x != y) = true := by simpa using hxy
            have hr : Hid (r = false) := by
              show r = false
              rw [← HR.out]
              simp only [decide_eq_false_iff_not]
              rintro ⟨_, h⟩
              exact hxy (by rw [← HX.out, ← HY.out, h])
            go_wp2
            go_quiet (fail)
            go_wp2
            go_ret
            exact RetB.mk (boolv hr.out.symm) (below_drewN (below_drewN HW.out _) _)
        · have hr : Hid (r = true) := by
            show r = true
            rw [← HR.out]
            simp only [decide_eq_true_eq]
            exact ⟨hst.out, list_eq_of L2.out L4.out hs.out (by omega)⟩
          have hge : (an : Int) ≤ k2 := by omega
          go_wp2
          go_ret
          exact RetB.mk (boolv hr.out.symm) (below_drewN HW.out _)
end Go.Proofs.Ytdedbfbkakofgaa

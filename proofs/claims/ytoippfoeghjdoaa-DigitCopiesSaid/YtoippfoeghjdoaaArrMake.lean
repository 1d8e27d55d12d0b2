/- Contracts of arr.Item (all cases), arr.Scalar, arr.List. -/
import Derived.Test.YtoippfoeghjdoaaArrItem
namespace Go.Proofs.Ytoippfoeghjdoaa
open Go.RowKit Go.Lib
set_option linter.unusedVariables false
set_option linter.unusedSimpArgs false
attribute [local go_sem] alloc_drewN setCell_drewN

/-- The place of an item, counted from the front. -/
def itJ (i n : Int) : Nat := (if i < 0 then i + n else i).toNat
theorem made_mk {w w' : World} {ao1 ao2 : Option Addr} {n1 c1 n2 c2 : Nat} {s a : List Int} (err : Int) (hB : Below w.heap.size w w')
    (O1 : w'.ownsRow w.heap.size 3 1 (.slice ao1 n1 c1) n1 (s.map (Value.int .i64))) (O2 : w'.ownsRow w.heap.size 2 1 (.slice ao2 n2 c2) n2 (a.map (Value.int .i64)))
    (h2 : ∀ g, (Value.slice ao1 n1 c1).ownBlock = some g → (Value.slice ao2 n2 c2).ownBlock ≠ some g)
    (b1 : n1 * 8 ≤ 140737488351232) (b2 : n2 * 8 ≤ 140737488351232) (r1 : ∀ i, -9223372036854775808 ≤ s.getD i 0 ∧ s.getD i 0 ≤ 9223372036854775807) (r2 : ∀ i, -9223372036854775808 ≤ a.getD i 0 ∧ a.getD i 0 ≤ 9223372036854775807) :
    MadeE w s a err (.returned (.tuple #[.agg #[.slice ao1 n1 c1, .slice ao2 n2 c2], .int .i64 err])) w' :=
  ⟨⟨ao1, n1, c1, ao2, n2, c2, s, a⟩, rfl, ⟨ls_of_own O1 b1 r1, ls_of_own O2 b2 r2⟩, rfl, rfl, ⟨O1, O2, h2⟩, hB⟩
theorem rng_one {n : Int} (h : -9223372036854775808 ≤ n ∧ n ≤ 9223372036854775807) : ∀ i, -9223372036854775808 ≤ [n].getD i 0 ∧ [n].getD i 0 ≤ 9223372036854775807 := by
  intro i; cases i with
  | zero => exact h
  | succ k => simp [List.getD]
/-- The call hands back an array of its own. -/
def MadeA (w : World) (s a : List Int) (e : Ending) (w' : World) : Prop :=
  ∃ B : Ar, e = .returned B.v ∧ B.Is w' ∧ B.s = s ∧ B.a = a ∧ B.Own w' w.heap.size ∧ Below w.heap.size w w'
set_option maxHeartbeats 400000 in
theorem scalar_any (n : Int) (w : World) (hn : -9223372036854775808 ≤ n ∧ n ≤ 9223372036854775807) :
    Calls Try.prog 46 #[.int .i64 n] w (MadeA w [] [n]) := by
  have HE : Hid (MadeA w [] [n] (.returned (.agg #[.slice none 0 0, .slice (some ⟨w.heap.size + 1, 0, none⟩) 1 1])) ((w.alloc (.cells #[.slice none 0 0, .slice (some ⟨w.heap.size + 1, 0, none⟩) 1 1] 38)).alloc (.cells #[.int .i64 n] 2))) := by
    have h := World.ownsRow_lit (base := w.heap.size) (e := 2) (size := 1) (w.alloc (.cells #[.slice none 0 0, .slice (some ⟨w.heap.size + 1, 0, none⟩) 1 1] 38)) #[.int .i64 n] 1 (by simp) (by simp [maxLen]) rfl
    have h' : World.ownsRow ((w.alloc (.cells #[.slice none 0 0, .slice (some ⟨w.heap.size + 1, 0, none⟩) 1 1] 38)).alloc (.cells #[.int .i64 n] 2)) w.heap.size 2 1 (.slice (some ⟨w.heap.size + 1, 0, none⟩) 1 1) 1 ([n].map (Value.int .i64)) := by simpa using h
    exact ⟨⟨none, 0, 0, some ⟨w.heap.size + 1, 0, none⟩, 1, 1, [], [n]⟩, rfl, ⟨Ls.zero _ _ (Nat.zero_le _), ls_of_own h' (show 1 * 8 ≤ 140737488351232 by omega) (rng_one hn)⟩, rfl, rfl, ⟨World.ownsRow_nil _ _ _ _, h', fun g h => by simp [Value.ownBlock] at h⟩, below_box2 _ _ _ _ _⟩
  clear hn
  go_enter Try.func46, Try.ntmps46
  go_wp2
  exact bodyPost_ret (v := .agg #[.slice none 0 0, .slice (some ⟨w.heap.size + 1, 0, none⟩) 1 1]) (by simp [results, Try.results46, go_sem, *]) rfl HE.out
end Go.Proofs.Ytoippfoeghjdoaa

/- Contracts of arr.Item (all cases), arr.Scalar, arr.List. -/
import Derived.Test.YtdedbfbkakofgaaArrItem
namespace Go.Proofs.Ytdedbfbkakofgaa
open Go.RowKit Go.Lib
set_option linter.unusedVariables false
set_option linter.unusedSimpArgs false
attribute [local go_sem] alloc_drewN setCell_drewN

/-- The place of an item, counted from the front. -/
def itJ (i n : Int) : Nat := (if i < 0 then i + n else i).toNat
theorem item_any {w : World} {A : Ar} (hA : A.Is w) (i : Int) (hm : amE A.s A.a = 0) (hi1 : -(itE A.s A.a) ≤ i) (hi2 : i < itE A.s A.a) :
    Calls Try.prog 39 #[A.v, .int .i64 i] w (MadeE w A.s.tail (itemA A.a (itJ i (itE A.s A.a)) (pr A.s.tail).toNat) 0) := by
  have hn1 : 1 ≤ itE A.s A.a := by omega
  obtain ⟨m, e1, e2, e3⟩ := item_part hm hn1
  have hj : ((itJ i (itE A.s A.a) : Nat) : Int) = if i < 0 then i + itE A.s A.a else i := by
    unfold itJ; split <;> omega
  have hmm : (((pr A.s.tail).toNat : Nat) : Int) = pr A.s.tail := by omega
  have hc := hA.shp.cap
  by_cases hneg : i < 0
  · by_cases h0 : A.sn = 0
    · exact item_ok0 hA i hm hi1 hi2 hneg h0 _ _ hj hmm
    · by_cases h1 : 1 < A.sc
      · exact item_ok1 hA i hm hi1 hi2 hneg ⟨h1, by omega⟩ _ _ hj hmm
      · exact item_ok2 hA i hm hi1 hi2 hneg ⟨by omega, by omega⟩ _ _ hj hmm
  · by_cases h0 : A.sn = 0
    · exact item_ok3 hA i hm hi1 hi2 hneg h0 _ _ hj hmm
    · by_cases h1 : 1 < A.sc
      · exact item_ok4 hA i hm hi1 hi2 hneg ⟨h1, by omega⟩ _ _ hj hmm
      · exact item_ok5 hA i hm hi1 hi2 hneg ⟨by omega, by omega⟩ _ _ hj hmm
theorem made_mk {w w' : World} {ao1 ao2 : Option Addr} {n1 c1 n2 c2 : Nat} {s a : List Int} (err : Int) (hB : Below w.heap.size w w')
    (O1 : w'.ownsRow w.heap.size 3 1 (.slice ao1 n1 c1) n1 (s.map (Value.int .i64))) (O2 : w'.ownsRow w.heap.size 2 1 (.slice ao2 n2 c2) n2 (a.map (Value.int .i64)))
    (h2 : ∀ g, (Value.slice ao1 n1 c1).ownBlock = some g → (Value.slice ao2 n2 c2).ownBlock ≠ some g)
    (b1 : n1 * 8 ≤ 140737488351232) (b2 : n2 * 8 ≤ 140737488351232) (r1 : ∀ i, -9223372036854775808 ≤ s.getD i 0 ∧ s.getD i 0 ≤ 9223372036854775807) (r2 : ∀ i, -9223372036854775808 ≤ a.getD i 0 ∧ a.getD i 0 ≤ 9223372036854775807) :
    MadeE w s a err (.returned (.tuple #[.agg #[.slice ao1 n1 c1, .slice ao2 n2 c2], .int .i64 err])) w' :=
  ⟨⟨ao1, n1, c1, ao2, n2, c2, s, a⟩, rfl, ⟨ls_of_own O1 b1 r1, ls_of_own O2 b2 r2⟩, rfl, rfl, ⟨O1, O2, h2⟩, hB⟩
theorem rng_one {n : Int} (h : -9223372036854775808 ≤ n ∧ n ≤ 9223372036854775807) : ∀ i, -9223372036854775808 ≤ [n].getD i 0 ∧ [n].getD i 0 ≤ 9223372036854775807 := by
  intro i; cases i with
  | zero => exact h
  | succ k => simp [List.getD]
/-- The call hands back an array of its own. -/
def MadeA (w : World) (s a : List Int) (e : Ending) (w' : World) : Prop :=
  ∃ B : Ar, e = .returned B.v ∧ B.Is w' ∧ B.s = s ∧ B.a = a ∧ B.Own w' w.heap.size ∧ Below w.heap.size w w'
set_option maxHeartbeats 400000 in
theorem scalar_any (n : Int) (w : World) (hn : -9223372036854775808 ≤ n ∧ n ≤ 9223372036854775807) :
    Calls Try.prog 40 #[.int .i64 n] w (MadeA w [] [n]) := by
  have HE : Hid (MadeA w [] [n] (.returned (.agg #[.slice none 0 0, .slice (some ⟨w.heap.size + 1, 0, none⟩) 1 1])) ((w.alloc (.cells #[.slice none 0 0, .slice (some ⟨w.heap.size + 1, 0, none⟩) 1 1] 55)).alloc (.cells #[.int .i64 n] 2))) := by
    have h := World.ownsRow_lit (base := w.heap.size) (e := 2) (size := 1) (w.alloc (.cells #[.slice none 0 0, .slice (some ⟨w.heap.size + 1, 0, none⟩) 1 1] 55)) #[.int .i64 n] 1 (by simp) (by simp [maxLen]) rfl
    have h' : World.ownsRow ((w.alloc (.cells #[.slice none 0 0, .slice (some ⟨w.heap.size + 1, 0, none⟩) 1 1] 55)).alloc (.cells #[.int .i64 n] 2)) w.heap.size 2 1 (.slice (some ⟨w.heap.size + 1, 0, none⟩) 1 1) 1 ([n].map (Value.int .i64)) := by simpa using h
    exact ⟨⟨none, 0, 0, some ⟨w.heap.size + 1, 0, none⟩, 1, 1, [], [n]⟩, rfl, ⟨Ls.zero _ _ (Nat.zero_le _), ls_of_own h' (show 1 * 8 ≤ 140737488351232 by omega) (rng_one hn)⟩, rfl, rfl, ⟨World.ownsRow_nil _ _ _ _, h', fun g h => by simp [Value.ownBlock] at h⟩, below_box2 _ _ _ _ _⟩
  clear hn
  go_enter Try.func40, Try.ntmps40
  go_wp2
  exact bodyPost_ret (v := .agg #[.slice none 0 0, .slice (some ⟨w.heap.size + 1, 0, none⟩) 1 1]) (by simp [results, Try.results40, go_sem, *]) rfl HE.out
set_option maxHeartbeats 400000 in
theorem list_big {w : World} {ao : Option Addr} {n c : Nat} {zs : List Int} (h : Ls w ao n c zs) (hb : 4096 < n) :
    Calls Try.prog 62 #[.slice ao n c] w (MadeE w [] [] 17) := by
  have hb' : (4096 : Int) < n := by omega
  have g1 := h.big
  clear h hb
  go_enter Try.func62, Try.ntmps62
  go_wp2
  exact bodyPost_ret (v := .tuple #[.agg #[.slice none 0 0, .slice none 0 0], .int .i64 17]) (by simp [results, Try.results62, go_sem, *]) rfl ⟨⟨none, 0, 0, none, 0, 0, [], []⟩, rfl, Ar.is_nil _, rfl, rfl, Ar.own_nil _ _, (Below.refl _ _).alloc (Nat.le_refl _) _⟩
set_option maxHeartbeats 800000 in
theorem list_ok {w : World} {ao : Option Addr} {n c : Nat} {zs : List Int} (h : Ls w ao n c zs) (hb : n ≤ 4096) :
    Calls Try.prog 62 #[.slice ao n c] w (MadeE w [(n : Int)] zs 0) := by
  have hb' : ¬ (4096 : Int) < n := by omega
  have hb2 : (n : Int) ≤ 4096 := by omega
  obtain ⟨W, HWW⟩ : ∃ W, Hid ((w.alloc (.cells #[.slice none 0 0, .slice none 0 0] 55)).alloc (.cells #[.int .i64 n] 3) = W) := ⟨_, rfl⟩
  have hw : Below w.heap.size w W := by rw [← HWW.out]; exact below_box2 _ _ _ _ _
  have hsz : W.heap.size = w.heap.size + 2 := by rw [← HWW.out]; simp
  have hO : W.ownsRow (w.heap.size + 1) 3 1 (.slice (some ⟨w.heap.size + 1, 0, none⟩) 1 1) 1 ([(n : Int)].map (Value.int .i64)) := by
    rw [← HWW.out]
    have h := World.ownsRow_lit (base := (w.alloc (.cells #[.slice none 0 0, .slice none 0 0] 55)).heap.size) (e := 3) (size := 1) (w.alloc (.cells #[.slice none 0 0, .slice none 0 0] 55)) #[.int .i64 n] 1 (Nat.le_refl _) (by simp [maxLen]) rfl
    simpa using h
  have B0 : BoxA W w.heap.size (.slice none 0 0) (.slice none 0 0) := by
    rw [← HWW.out]
    exact ⟨by simp [go_sem], by simp [go_sem], by simp [go_sem], by simp [go_sem], by simp; omega⟩
  have C := Lib.hid (clone6_any (h.below hw (Nat.le_refl _)))
  have HO := Lib.hid hO
  have HW := Lib.hid hw
  have SZ := Lib.hid hsz
  have HB0 := Lib.hid B0
  clear h hw hsz hO B0 hb
  go_enter Try.func62, Try.ntmps62
  go_wp2_with fail
  rw [HWW.out]
  refine C.out.mono ?_; rintro e w2 ⟨ao2, c2, rfl, hL2, hO2, hB2⟩
  obtain ⟨k0, k1, k2, k3, k4⟩ := HB0.out.below hB2 HB0.out.lt
  have HE : Hid (∀ u v, MadeE w [(n : Int)] zs 0 (.returned (.tuple #[.agg #[.slice (some ⟨w.heap.size + 1, 0, none⟩) 1 1, .slice ao2 n c2], .int .i64 0])) ((w2.setCell ⟨w.heap.size, 0, none⟩ u).setCell ⟨w.heap.size, 1, none⟩ v)) := by
    intro u v
    have hsz := SZ.out
    have O1 := ownsRow_setCell_below (ownsRow_setCell_below (own_below HO.out hB2 (Nat.le_refl _)) (a := ⟨w.heap.size, 0, none⟩) (by simp) u) (a := ⟨w.heap.size, 1, none⟩) (by simp) v
    have O2 := ownsRow_setCell_below (ownsRow_setCell_below hO2 (a := ⟨w.heap.size, 0, none⟩) (by show w.heap.size < _; omega) u) (a := ⟨w.heap.size, 1, none⟩) (by show w.heap.size < _; omega) v
    refine made_mk 0 (((HW.out.trans (hB2.mono (by omega))).setCell (by simp) _).setCell (by simp) _) (own_mono O1 (by omega)) (own_mono O2 (by omega)) ?_ (by omega) hL2.big (rng_one (by omega)) hL2.rng
    intro g h1 h2
    have q1 := own_block HO.out h1
    have q2 := own_block hO2 h2
    omega
  clear hL2 hO2 hB2
  go_wp2
  exact bodyPost_ret (v := .tuple #[.agg #[.slice (some ⟨w.heap.size + 1, 0, none⟩) 1 1, .slice ao2 n c2], .int .i64 0]) (by simp [results, Try.results62, go_sem, *]) rfl (HE.out _ _)
end Go.Proofs.Ytdedbfbkakofgaa

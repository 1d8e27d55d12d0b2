/- Contracts of shape.indices, shape.At. -/
import Derived.Test.YtoippfoeghjdoaaShapePlace
namespace Go.Proofs.Ytoippfoeghjdoaa
open Go.RowKit Go.Lib
set_option linter.unusedVariables false
set_option linter.unusedSimpArgs false
attribute [local go_sem] alloc_drewN setCell_drewN

/-- The call hands back a row of its own that reads as zs. -/
def MadeL (w : World) (zs : List Int) (e : Ending) (w' : World) : Prop :=
  ∃ ao n c, e = .returned (.slice ao n c) ∧ Ls w' ao n c zs ∧ w'.ownsRow w.heap.size 3 1 (.slice ao n c) n (zs.map (Value.int .i64)) ∧ Below w.heap.size w w'
/-- The same, and an error number. -/
def MadeS (w : World) (zs : List Int) (err : Int) (e : Ending) (w' : World) : Prop :=
  ∃ ao n c, e = .returned (.tuple #[.slice ao n c, .int .i64 err]) ∧ Ls w' ao n c zs ∧ w'.ownsRow w.heap.size 3 1 (.slice ao n c) n (zs.map (Value.int .i64)) ∧ Below w.heap.size w w'
theorem MadeS.nil {w w' : World} (err : Int) (h : Below w.heap.size w w') : MadeS w [] err (.returned (.tuple #[.slice none 0 0, .int .i64 err])) w' :=
  ⟨none, 0, 0, rfl, Ls.zero _ _ (Nat.zero_le _), World.ownsRow_nil _ _ _ _, h⟩
/-- The indices of a place. -/
def ixL (s : List Int) (p : Int) : List Int := (List.range s.length).map fun i => (p / pr (s.drop (i + 1))) % s.getD i 0
theorem ixL_len (s : List Int) (p : Int) : (ixL s p).length = s.length := by simp [ixL]
theorem ixL_at {s : List Int} {p : Int} {k : Nat} (h : k < s.length) : (ixL s p).getD k 0 = (p / pr (s.drop (k + 1))) % s.getD k 0 := by
  simp [ixL, List.getD, h]
theorem pr_drop {s : List Int} {k : Nat} (h : k < s.length) : pr (s.drop k) = s.getD k 0 * pr (s.drop (k + 1)) := by
  rw [List.drop_eq_getElem_cons h, pr_cons]; simp [List.getD, List.getElem?_eq_getElem h]
theorem pos_all : ∀ {s : List Int}, (∀ i, 0 ≤ s.getD i 0) → 0 < pr s → ∀ i, i < s.length → 1 ≤ s.getD i 0
  | [], _, _, i, hi => absurd hi (by simp)
  | x :: xs, h0, hp, i, hi => by
    rw [pr_cons] at hp
    have hx : 0 ≤ x := by simpa using h0 0
    have hxs : ∀ i, 0 ≤ xs.getD i 0 := fun i => by have := h0 (i + 1); simpa [List.getD] using this
    have h1 : x ≠ 0 := by rintro rfl; simp at hp
    have h2 : 0 < pr xs := by
      have h3 := (pr_le xs hxs xs.length).1
      rw [List.take_length] at h3
      rcases Int.lt_or_eq_of_le h3 with h4 | h4
      · exact h4
      · rw [← h4] at hp; simp at hp
    cases i with
    | zero => simp; omega
    | succ i => have := pos_all hxs h2 i (by simpa using hi); simpa [List.getD] using this
theorem pr_drop_pos {s : List Int} (h : ∀ i, i < s.length → 1 ≤ s.getD i 0) (k : Nat) : 1 ≤ pr (s.drop k) := by
  rcases Nat.lt_or_ge k s.length with hk | hk
  · rw [pr_drop hk]
    have h1 := pr_drop_pos h (k + 1)
    have h2 := h k hk
    exact (le_mul1 h2 h1).1 |> fun h3 => by omega
  · rw [List.drop_of_length_le hk]; simp [pr]
termination_by s.length - k
theorem ixL_rng {s : List Int} {p : Int} (h : ∀ i, i < s.length → 1 ≤ s.getD i 0) (i : Nat) (hi : i < s.length) : 0 ≤ (ixL s p).getD i 0 ∧ (ixL s p).getD i 0 < s.getD i 0 := by
  rw [ixL_at hi]
  have := h i hi
  exact ⟨Int.emod_nonneg _ (by omega), Int.emod_lt_of_pos _ (by omega)⟩
theorem set_ix {L : List Int} {k : Nat} (h : k < L.length) : (List.replicate (k + 1) (0 : Int) ++ L.drop (k + 1)).set k (L.getD k 0) = List.replicate k 0 ++ L.drop k := by
  rw [List.set_append_left _ _ (by simp), List.drop_eq_getElem_cons h, List.replicate_succ' (n := k), List.set_append_right _ _ (by simp)]
  simp [List.getD, List.getElem?_eq_getElem h]
set_option maxRecDepth 100000 in
set_option maxHeartbeats 800000 in
theorem indices_any {w : World} {ao : Option Addr} {n c : Nat} {s : List Int} (h : Ls w ao n c s) (p : Int) (hp : 0 ≤ p ∧ p ≤ 1000000) (hn : n ≤ 1000) (hs : ∀ i, i < s.length → 1 ≤ s.getD i 0) :
    Calls Try.prog 94 #[.slice ao n c, .int .i64 p] w (MadeL w (ixL s p)) := by
  have hmk := fun w => mk_int n (by omega) w
  have hl := h.len
  have HO0 := Lib.hid (own_zeros w 3 n w.heap.size (by omega) (Nat.le_refl _))
  have H := Lib.hid h
  have HS := Lib.hid hs
  have HL := Lib.hid hl
  have z0 : IntKind.i64.wrap ((n : Int) - 1) = n - 1 := IntWalk.i64_in _ (by omega)
  clear h hs hl
  go_enter Try.func94, Try.ntmps94
  go_wp2_with fail
  go_loopw [1, 6] (fun q i wr => ∃ (k : Nat) (Q : Int), k ≤ n ∧ i = .int .i64 ((k : Int) - 1) ∧ q = .int .i64 Q ∧ Hid (p / pr (s.drop k) = Q) ∧ Hid (wr.ownsRow w.heap.size 3 1 (.slice (some ⟨w.heap.size, 0, none⟩) n n) n ((List.replicate k (0 : Int) ++ (ixL s p).drop k).map (Value.int .i64))) ∧ Hid (Below w.heap.size w wr)) (fun _ i _ => (RowKit.intOf i + 1).toNat)
  case atStart =>
    refine ⟨n, p, Nat.le_refl _, rfl, rfl, ?_, ?_, (Below.refl _ _).alloc (Nat.le_refl _) _⟩
    · show _ = _; rw [List.drop_of_length_le (by rw [HL.out]; omega)]; simp [pr]
    · rw [List.drop_of_length_le (by rw [ixL_len, HL.out]; omega), List.append_nil]; exact HO0
  case round =>
    obtain ⟨k, Q, hk, rfl, rfl, HQ, HO, HB⟩ := hrel
    by_cases h0 : 0 < k
    · obtain ⟨j, rfl⟩ : ∃ j, k = j + 1 := ⟨k - 1, by omega⟩
      have e0 : ((j + 1 : Nat) : Int) - 1 = j := by omega
      rw [e0]
      have hj : j < n := by omega
      have hj' : (j : Int) < n := by omega
      have hL := H.out.below HB.out (Nat.le_refl _)
      obtain ⟨b1, o1, rfl, hb1, hc1⟩ := H.out.mem (by omega)
      have d1 := (HB.out.cell (p := ⟨b1, o1 + j, none⟩) hb1).trans (hc1 j hj)
      have d4 : (wr.setCell ⟨w.heap.size, j, none⟩ (.int .i64 ((ixL s p).getD j 0))).cell? ⟨b1, o1 + j, none⟩ = some (.int .i64 (s.getD j 0)) := by
        rw [World.cell?_setCell_far _ _ _ _ (by dsimp only; omega)]; exact d1
      have d2 : ∃ v, wr.cell? ⟨w.heap.size, j, none⟩ = some v := by
        rw [HO.out.cellAt j (by omega)]
        exact ⟨_, List.getElem?_eq_getElem (by have := HO.out.1; rw [this]; omega)⟩
      obtain ⟨v0, d2⟩ := d2
      have d3 := HO.out.frozenAt j
      have hx1 := HS.out j (by rw [HL.out]; omega)
      have hx2 := (hL.rng j).2
      have hq1 : 0 ≤ Q := by rw [← HQ.out]; exact Int.ediv_nonneg hp.1 (by have := pr_drop_pos HS.out (j + 1); omega)
      have hq2 : Q ≤ 1000000 := by rw [← HQ.out]; exact Int.le_trans (Int.ediv_le_self _ hp.1) hp.2
      have hix := ixL_at (s := s) (p := p) (k := j) (by rw [HL.out]; omega)
      rw [HQ.out] at hix
      have hq3 : p / pr (s.drop j) = Q / s.getD j 0 := by
        rw [pr_drop (by rw [HL.out]; omega), Int.mul_comm]
        have hd := Int.ediv_ediv (x := p) (y := pr (s.drop (j + 1))) (z := s.getD j 0)
        rw [if_neg (by have := pr_drop_pos HS.out (j + 1); omega), Int.sub_zero, HQ.out] at hd
        exact hd.symm
      have HO2 := Lib.hid ((HO.out.stored j (.int .i64 ((ixL s p).getD j 0))).1)
      have hset := set_ix (L := ixL s p) (k := j) (by rw [ixL_len, HL.out]; omega)
      rw [← List.map_set, hset] at HO2
      obtain ⟨x, HX⟩ : ∃ x, Hid (s.getD j 0 = x) := ⟨_, rfl⟩
      obtain ⟨y, HY⟩ : ∃ y, Hid ((ixL s p).getD j 0 = y) := ⟨_, rfl⟩
      rw [HX.out] at d1 d4 hx1 hx2 hix hq3
      rw [HY.out] at hix HO2 d4
      have m1 : Q.tmod x = y := by rw [hix, Int.tmod_eq_emod_of_nonneg hq1]
      have m2 : Q.tdiv x = Q / x := Int.tdiv_eq_ediv_of_nonneg hq1
      have m3 : 0 ≤ Q / x ∧ Q / x ≤ Q := ⟨Int.ediv_nonneg hq1 (by omega), Int.ediv_le_self _ hq1⟩
      have m4 : 0 ≤ y ∧ y < x := by rw [hix]; exact ⟨Int.emod_nonneg _ (by omega), Int.emod_lt_of_pos _ (by omega)⟩
      obtain ⟨Q2, HQ2⟩ : ∃ Q2, Hid (Q / x = Q2) := ⟨_, rfl⟩
      rw [HQ2.out] at m2 m3 hq3
      have HQ3 := Lib.hid hq3
      have m5 : IntKind.i64.wrap y = y := IntWalk.i64_in _ (by omega)
      have m6 : IntKind.i64.wrap Q2 = Q2 := IntWalk.i64_in _ (by omega)
      have m7 : (x == 0) = false := by simp; omega
      have m8 : ¬ x = 0 := by omega
      have m9 : IntKind.i64.wrap ((j : Int) - 1) = j - 1 := IntWalk.i64_in _ (by omega)
      have HB2 := Lib.hid (HB.out.setCell (show w.heap.size ≤ (⟨w.heap.size, j, none⟩ : Addr).block from Nat.le_refl _) (.int .i64 y))
      clear hL hc1 hb1 hx1 hx2 hq1 hq2 hix hq3 hset m3 m4 HX HY
      go_wp2
      go_roundw
      case rel => exact ⟨j, Q2, by omega, rfl, rfl, HQ3, HO2, HB2⟩
      case measure => simp [RowKit.intOf]
    · obtain rfl : k = 0 := by omega
      have hout := HO.out
      simp only [List.replicate_zero, List.nil_append, List.drop_zero] at hout
      have HF : Hid (MadeL w (ixL s p) (.returned (.slice (some ⟨w.heap.size, 0, none⟩) n n)) wr) := by
        refine ⟨_, _, _, rfl, ls_of_own hout (by omega) (fun i => ?_), hout, HB.out⟩
        by_cases hi : i < s.length
        · have h1 := ixL_rng (p := p) HS.out i hi
          have h2 := (H.out.rng i).2
          omega
        · rw [show (ixL s p).getD i 0 = 0 by simp [List.getD, ixL, hi]]; omega
      clear hout
      go_wp2
      go_ret
      exact HF.out
def atL (s : List Int) (p : Int) : List Int := if mayE s = 0 ∧ 0 ≤ p ∧ p < pr s then ixL s p else []
def atE (s : List Int) (p : Int) : Int := if mayE s = 0 then if 0 ≤ p ∧ p < pr s then 0 else 13 else mayE s
end Go.Proofs.Ytoippfoeghjdoaa

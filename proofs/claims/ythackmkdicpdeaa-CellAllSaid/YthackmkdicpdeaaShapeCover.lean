/- Contracts of abacuslaw2.EqInts, shape.Place. Contracts of shape.indices, shape.At. Contracts of shape.Agree, shape.Split. Contracts of shape.both and its closure, shape.Cover. -/
import Derived.Test.YthackmkdicpdeaaHeap
namespace Go.Proofs.Ythackmkdicpdeaa
open Go.RowKit Go.Lib
set_option linter.unusedVariables false
set_option linter.unusedSimpArgs false
attribute [local go_sem] alloc_drewN setCell_drewN

set_option maxHeartbeats 800000 in
theorem eqints_any {w : World} {a1 a2 : Option Addr} {n1 c1 n2 c2 : Nat} {s t : List Int} (h1 : Ls w a1 n1 c1 s) (h2 : Ls w a2 n2 c2 t) :
    Calls Try.prog 58 #[.slice a1 n1 c1, .slice a2 n2 c2] w (Ret w (.bool (decide (s = t)))) := by
  have l1 := h1.len
  have l2 := h2.len
  have g1 := h1.big
  obtain ⟨r, HR⟩ : ∃ r, Hid (decide (s = t) = r) := ⟨_, rfl⟩
  rw [HR.out]
  by_cases hst : ¬ n1 = n2
  · have hr : Hid (r = false) := by
      show r = false
      rw [← HR.out]; simp only [decide_eq_false_iff_not]
      rintro rfl; omega
    have hne : ((n1 : Int) != n2) = true := by simp; omega
    have hne' : (n1 != n2) = true := by simp; omega
    clear l1 l2 h1 h2 hst
    go_enter Try.func58, Try.ntmps58
    go_wp2
    go_ret
    exact Ret.mk0 (boolv hr.out.symm)
  have hst' : n1 = n2 := by omega
  subst hst'
  have H1 := Lib.hid h1
  have H2 := Lib.hid h2
  have L1 := Lib.hid l1
  have L2 := Lib.hid l2
  have q1 : ((n1 : Int) != n1) = false := by simp
  clear h1 h2 l1 l2 hst
  go_enter Try.func58, Try.ntmps58
  go_wp2
  clear q1
  go_loopw [5] (fun i wr => ∃ k : Nat, k ≤ n1 ∧ i = .int .i64 k ∧ Hid (∀ j, j < k → s.getD j 0 = t.getD j 0) ∧ ∃ q, wr = w.drewN q) (fun i _ => n1 - (RowKit.intOf i).toNat)
  case atStart => exact ⟨0, Nat.zero_le _, rfl, fun j hj => absurd hj (by omega), 0, rfl⟩
  case round =>
    obtain ⟨k, hk, rfl, hs, q, rfl⟩ := hrel
    by_cases hlt : k < n1
    · have hlt' : (k : Int) < n1 := by omega
      obtain ⟨b1, o1, rfl, hc1⟩ := H1.out.at (by omega)
      obtain ⟨b2, o2, rfl, hc2⟩ := H2.out.at (by omega)
      have d1 := hc1 k hlt
      have d2 := hc2 k hlt
      clear hc1 hc2
      obtain ⟨x, HX⟩ : ∃ x, Hid (s.getD k 0 = x) := ⟨_, rfl⟩
      obtain ⟨y, HY⟩ : ∃ y, Hid (t.getD k 0 = y) := ⟨_, rfl⟩
      rw [HX.out] at d1
      rw [HY.out] at d2
      by_cases hxy : x = y
      · subst hxy
        have hs' : Hid (∀ j, j < k + 1 → s.getD j 0 = t.getD j 0) := by
          intro j hj
          by_cases e : j = k
          · subst e; rw [HX.out, HY.out]
          · exact hs.out j (by omega)
        go_wp2
        go_quiet (fail)
        go_wp2
        go_roundw
        case rel => exact ⟨k + 1, by omega, by go_num, hs', _, rfl⟩
        case measure => simp [RowKit.intOf]; omega
      · have hne : (x != y) = true := by simpa using hxy
        have hr : Hid (r = false) := by
          show r = false
          rw [← HR.out]
          simp only [decide_eq_false_iff_not]
          intro h
          exact hxy (by rw [← HX.out, ← HY.out, h])
        go_wp2
        go_quiet (fail)
        go_wp2
        go_ret
        exact ⟨congrArg Ending.returned (boolv hr.out.symm), _, World.drewN_drewN _ _ _⟩
    · have hr : Hid (r = true) := by
        show r = true
        rw [← HR.out]
        simp only [decide_eq_true_eq]
        exact list_eq_of L1.out L2.out hs.out (by omega)
      have hge : (n1 : Int) ≤ k := by omega
      go_wp2
      go_ret
      exact Ret.mk _ (boolv hr.out.symm)
/-- The number of the place with the first k indices. -/
def plN (s a : List Int) : Nat → Int
  | 0 => 0
  | k + 1 => plN s a k * s.getD k 0 + a.getD k 0
/-- The first k indices lie in the shape. -/
def inR (s a : List Int) (k : Nat) : Prop := ∀ i, i < k → 0 ≤ a.getD i 0 ∧ a.getD i 0 < s.getD i 0
instance (s a : List Int) (k : Nat) : Decidable (inR s a k) := by unfold inR; infer_instance
theorem plN_bd {s a : List Int} (hs : ∀ i, 0 ≤ s.getD i 0) {k : Nat} (hk : k ≤ s.length) (h : inR s a k) : 0 ≤ plN s a k ∧ plN s a k < pr (s.take k) := by
  induction k with
  | zero => simp [plN, pr]
  | succ k ih =>
    obtain ⟨h1, h2⟩ := ih (by omega) (fun i hi => h i (by omega))
    obtain ⟨h3, h4⟩ := h k (by omega)
    rw [pr_snoc (by omega)]
    simp only [plN]
    have h5 : 0 ≤ plN s a k * s.getD k 0 := Int.mul_nonneg h1 (hs k)
    have h6 : (plN s a k + 1) * s.getD k 0 ≤ pr (s.take k) * s.getD k 0 := Int.mul_le_mul_of_nonneg_right (by omega) (hs k)
    rw [Int.add_mul, Int.one_mul] at h6
    omega
def plV (s a : List Int) : Int := if mayE s = 0 ∧ a.length = s.length ∧ inR s a s.length then plN s a s.length else 0
def plE (s a : List Int) : Int := if mayE s = 0 then if a.length = s.length then if inR s a s.length then 0 else 13 else 12 else mayE s
set_option maxRecDepth 100000 in
set_option maxHeartbeats 800000 in
theorem place_any {w : World} {a1 a2 : Option Addr} {n1 c1 n2 c2 : Nat} {s t : List Int} (h1 : Ls w a1 n1 c1 s) (h2 : Ls w a2 n2 c2 t) :
    Calls Try.prog 92 #[.slice a1 n1 c1, .slice a2 n2 c2] w (RetS w (.tuple #[.int .i64 (plV s t), .int .i64 (plE s t)])) := by
  have CM := Lib.hid (may_any h1)
  obtain ⟨v, HV⟩ : ∃ v, Hid (plV s t = v) := ⟨_, rfl⟩
  obtain ⟨e, HE⟩ : ∃ v, Hid (plE s t = v) := ⟨_, rfl⟩
  rw [HV.out, HE.out]
  by_cases hm : ¬ mayE s = 0
  · obtain rfl : v = 0 := by rw [← HV.out]; simp [plV, hm]
    obtain rfl : e = mayE s := by rw [← HE.out]; simp [plE, hm]
    obtain ⟨e, he⟩ : ∃ v, mayE s = v := ⟨_, rfl⟩
    rw [he] at CM hm ⊢
    have hm' : (e != 0) = true := by simpa using hm
    clear h1 h2 HE HV he hm
    go_enter Try.func92, Try.ntmps92
    go_wp2_with fail
    refine CM.out.mono ?_; rintro e' w' ⟨rfl, rfl⟩
    go_wp2
    go_ret2
    exact RetS.mk rfl
  have hm : mayE s = 0 := by simpa using hm
  rw [hm] at CM
  have l1 := h1.len
  have l2 := h2.len
  by_cases hl : ¬ t.length = s.length
  · obtain rfl : v = 0 := by rw [← HV.out]; simp [plV, hl]
    obtain rfl : e = 12 := by rw [← HE.out]; simp [plE, hm, hl]
    have hne : ((n2 : Int) != n1) = true := by simp; omega
    have hne' : (n2 != n1) = true := by simp; omega
    clear h1 h2 HE HV hm l1 l2 hl
    go_enter Try.func92, Try.ntmps92
    go_wp2_with fail
    refine CM.out.mono ?_; rintro e' w' ⟨rfl, rfl⟩
    go_wp2
    go_ret2
    exact RetS.mk rfl
  have hl : t.length = s.length := by simpa using hl
  obtain rfl : n2 = n1 := by omega
  obtain ⟨g1, g2, g3⟩ := mayE_zero hm
  have HG1 := Lib.hid g1
  have HG3 := Lib.hid g3
  have H1 := Lib.hid h1
  have H2 := Lib.hid h2
  have L1 := Lib.hid l1
  have HM := Lib.hid hm
  have HL := Lib.hid hl
  have hb : n2 ≤ 8 := by omega
  have q1 : ((n2 : Int) != n2) = false := by simp
  have q2 : (n2 != n2) = false := by simp
  clear h1 h2 g1 g2 g3 l1 l2 hm hl
  go_enter Try.func92, Try.ntmps92
  go_wp2_with fail
  refine CM.out.mono ?_; rintro e' w' ⟨rfl, rfl⟩
  go_wp2_with fail
  go_loopw [7, 22] (fun p i wr => ∃ (k : Nat) (P : Int), k ≤ n2 ∧ i = .int .i64 k ∧ p = .int .i64 P ∧ Hid (plN s t k = P) ∧ Hid (inR s t k) ∧ wr = w') (fun _ i _ => n2 - (RowKit.intOf i).toNat)
  case atStart => exact ⟨0, 0, Nat.zero_le _, rfl, rfl, rfl, fun i hi => absurd hi (by omega), rfl⟩
  case round =>
    obtain ⟨k, P, hk, rfl, rfl, HP, HI, hwr⟩ := hrel
    have hwr' := hwr.symm
    subst hwr'
    by_cases hlt : k < n2
    · have hlt' : (k : Int) < n2 := by omega
      obtain ⟨b1, o1, rfl, hc1⟩ := H1.out.at (by omega)
      obtain ⟨b2, o2, rfl, hc2⟩ := H2.out.at (by omega)
      have d1 := hc1 k hlt
      have d2 := hc2 k hlt
      clear hc1 hc2
      have hr1 := H1.out.rng k
      have hbd := plN_bd HG1.out (k := k) (by rw [L1.out]; omega) HI.out
      have hp1 := pr_le s HG1.out k
      have hp2 := pm_all s k
      have hp3 := pr_le s HG1.out (k + 1)
      have hp4 := pm_all s (k + 1)
      have hp5 := (pm_up s k).2.2
      have hg0 := HG1.out k
      have hbd2 : (t.getD k 0 < s.getD k 0 ∧ 0 ≤ t.getD k 0) → 0 ≤ P * s.getD k 0 ∧ P * s.getD k 0 + t.getD k 0 < pr (s.take (k + 1)) := by
        rintro ⟨h3, h4⟩
        have h := plN_bd HG1.out (k := k + 1) (by rw [L1.out]; omega) (fun i hi => by
          by_cases e : i = k
          · subst e; exact ⟨h4, h3⟩
          · exact HI.out i (by omega))
        simp only [plN, HP.out] at h
        have h5 : 0 ≤ plN s t k * s.getD k 0 := Int.mul_nonneg hbd.1 hg0
        rw [HP.out] at h5
        exact ⟨h5, h.2⟩
      obtain ⟨x, HX⟩ : ∃ x, Hid (s.getD k 0 = x) := ⟨_, rfl⟩
      obtain ⟨y, HY⟩ : ∃ y, Hid (t.getD k 0 = y) := ⟨_, rfl⟩
      rw [HX.out] at d1
      rw [HY.out] at d2
      rw [HX.out, HY.out] at hbd2
      have hg3 := HG3.out
      by_cases hy : 0 ≤ y ∧ y < x
      · obtain ⟨hy1, hy2⟩ := hy
        obtain ⟨hz1, hz2⟩ := hbd2 ⟨hy2, hy1⟩
        have z1 : IntKind.i64.wrap (P * x) = P * x := IntWalk.i64_in _ (by omega)
        have z2 : IntKind.i64.wrap (P * x + y) = P * x + y := IntWalk.i64_in _ (by omega)
        have HP2 : Hid (plN s t (k + 1) = P * x + y) := by show _ = _; simp only [plN, HP.out, HX.out, HY.out]
        have HI2 : Hid (inR s t (k + 1)) := fun i hi => by
          by_cases e : i = k
          · subst e; rw [HX.out, HY.out]; exact ⟨hy1, hy2⟩
          · exact HI.out i (by omega)
        have y1 : decide (y < 0) = false := by simpa using hy1
        have y2 : decide (x ≤ y) = false := by simpa using hy2
        clear hbd hp1 hp2 hp3 hp4 hp5 hg0 hbd2 hg3 hr1 hz1 hz2
        go_wp2
        go_roundw
        case rel => exact ⟨k + 1, _, by omega, by go_num, rfl, HP2, HI2, by first | rfl | trivial⟩
        case measure => simp [RowKit.intOf]; omega
      · have hni : ¬ inR s t s.length := fun h => by
          have h3 := h k (by rw [L1.out]; exact hlt)
          rw [HX.out, HY.out] at h3
          exact hy h3
        obtain rfl : v = 0 := by rw [← HV.out]; simp [plV, hni]
        obtain rfl : e = 13 := by rw [← HE.out]; simp [plE, HM.out, HL.out, hni]
        clear hbd hp1 hp2 hp3 hp4 hp5 hg0 hbd2 hg3 hr1 hni
        by_cases hy0 : y < 0
        · go_wp2
          go_ret2
          exact RetS.mk rfl
        · have hyx : x ≤ y := by omega
          go_wp2
          go_ret2
          exact RetS.mk rfl
    · obtain rfl : k = n2 := by omega
      have hge : (k : Int) ≤ k := Int.le_refl _
      have hI := HI.out
      rw [← L1.out] at hI
      have hP := HP.out
      rw [← L1.out] at hP
      obtain rfl : v = P := by rw [← HV.out, ← hP]; simp [plV, HM.out, HL.out, hI]
      obtain rfl : e = 0 := by rw [← HE.out]; simp [plE, HM.out, HL.out, hI]
      clear hI hP
      go_wp2
      go_ret2
      exact RetS.mk rfl
end Go.Proofs.Ythackmkdicpdeaa
namespace Go.Proofs.Ythackmkdicpdeaa
open Go.RowKit Go.Lib
set_option linter.unusedVariables false
set_option linter.unusedSimpArgs false
attribute [local go_sem] alloc_drewN setCell_drewN

/-- The call hands back a row of its own that reads as zs. -/
def MadeL (w : World) (zs : List Int) (e : Ending) (w' : World) : Prop :=
  ∃ ao n c, e = .returned (.slice ao n c) ∧ Ls w' ao n c zs ∧ w'.ownsRow w.heap.size 3 1 (.slice ao n c) n (zs.map (Value.int .i64)) ∧ Below w.heap.size w w'
/-- The same, and an error number. -/
def MadeS (w : World) (zs : List Int) (err : Int) (e : Ending) (w' : World) : Prop :=
  ∃ ao n c, e = .returned (.tuple #[.slice ao n c, .int .i64 err]) ∧ Ls w' ao n c zs ∧ w'.ownsRow w.heap.size 3 1 (.slice ao n c) n (zs.map (Value.int .i64)) ∧ Below w.heap.size w w'
theorem MadeS.nil {w w' : World} (err : Int) (h : Below w.heap.size w w') : MadeS w [] err (.returned (.tuple #[.slice none 0 0, .int .i64 err])) w' :=
  ⟨none, 0, 0, rfl, Ls.zero _ _ (Nat.zero_le _), World.ownsRow_nil _ _ _ _, h⟩
/-- The indices of a place. -/
def ixL (s : List Int) (p : Int) : List Int := (List.range s.length).map fun i => (p / pr (s.drop (i + 1))) % s.getD i 0
theorem ixL_len (s : List Int) (p : Int) : (ixL s p).length = s.length := by simp [ixL]
theorem ixL_at {s : List Int} {p : Int} {k : Nat} (h : k < s.length) : (ixL s p).getD k 0 = (p / pr (s.drop (k + 1))) % s.getD k 0 := by
  simp [ixL, List.getD, h]
theorem pr_drop {s : List Int} {k : Nat} (h : k < s.length) : pr (s.drop k) = s.getD k 0 * pr (s.drop (k + 1)) := by
  rw [List.drop_eq_getElem_cons h, pr_cons]; simp [List.getD, List.getElem?_eq_getElem h]
theorem pos_all : ∀ {s : List Int}, (∀ i, 0 ≤ s.getD i 0) → 0 < pr s → ∀ i, i < s.length → 1 ≤ s.getD i 0
  | [], _, _, i, hi => absurd hi (by simp)
  | x :: xs, h0, hp, i, hi => by
    rw [pr_cons] at hp
    have hx : 0 ≤ x := by simpa using h0 0
    have hxs : ∀ i, 0 ≤ xs.getD i 0 := fun i => by have := h0 (i + 1); simpa [List.getD] using this
    have h1 : x ≠ 0 := by rintro rfl; simp at hp
    have h2 : 0 < pr xs := by
      have h3 := (pr_le xs hxs xs.length).1
      rw [List.take_length] at h3
      rcases Int.lt_or_eq_of_le h3 with h4 | h4
      · exact h4
      · rw [← h4] at hp; simp at hp
    cases i with
    | zero => simp; omega
    | succ i => have := pos_all hxs h2 i (by simpa using hi); simpa [List.getD] using this
theorem pr_drop_pos {s : List Int} (h : ∀ i, i < s.length → 1 ≤ s.getD i 0) (k : Nat) : 1 ≤ pr (s.drop k) := by
  rcases Nat.lt_or_ge k s.length with hk | hk
  · rw [pr_drop hk]
    have h1 := pr_drop_pos h (k + 1)
    have h2 := h k hk
    exact (le_mul1 h2 h1).1 |> fun h3 => by omega
  · rw [List.drop_of_length_le hk]; simp [pr]
termination_by s.length - k
theorem ixL_rng {s : List Int} {p : Int} (h : ∀ i, i < s.length → 1 ≤ s.getD i 0) (i : Nat) (hi : i < s.length) : 0 ≤ (ixL s p).getD i 0 ∧ (ixL s p).getD i 0 < s.getD i 0 := by
  rw [ixL_at hi]
  have := h i hi
  exact ⟨Int.emod_nonneg _ (by omega), Int.emod_lt_of_pos _ (by omega)⟩
theorem set_ix {L : List Int} {k : Nat} (h : k < L.length) : (List.replicate (k + 1) (0 : Int) ++ L.drop (k + 1)).set k (L.getD k 0) = List.replicate k 0 ++ L.drop k := by
  rw [List.set_append_left _ _ (by simp), List.drop_eq_getElem_cons h, List.replicate_succ' (n := k), List.set_append_right _ _ (by simp)]
  simp [List.getD, List.getElem?_eq_getElem h]
set_option maxRecDepth 100000 in
set_option maxHeartbeats 800000 in
theorem indices_any {w : World} {ao : Option Addr} {n c : Nat} {s : List Int} (h : Ls w ao n c s) (p : Int) (hp : 0 ≤ p ∧ p ≤ 1000000) (hn : n ≤ 1000) (hs : ∀ i, i < s.length → 1 ≤ s.getD i 0) :
    Calls Try.prog 101 #[.slice ao n c, .int .i64 p] w (MadeL w (ixL s p)) := by
  have hmk := fun w => mk_int n (by omega) w
  have hl := h.len
  have HO0 := Lib.hid (own_zeros w 3 n w.heap.size (by omega) (Nat.le_refl _))
  have H := Lib.hid h
  have HS := Lib.hid hs
  have HL := Lib.hid hl
  have z0 : IntKind.i64.wrap ((n : Int) - 1) = n - 1 := IntWalk.i64_in _ (by omega)
  clear h hs hl
  go_enter Try.func101, Try.ntmps101
  go_wp2_with fail
  go_loopw [1, 6] (fun q i wr => ∃ (k : Nat) (Q : Int), k ≤ n ∧ i = .int .i64 ((k : Int) - 1) ∧ q = .int .i64 Q ∧ Hid (p / pr (s.drop k) = Q) ∧ Hid (wr.ownsRow w.heap.size 3 1 (.slice (some ⟨w.heap.size, 0, none⟩) n n) n ((List.replicate k (0 : Int) ++ (ixL s p).drop k).map (Value.int .i64))) ∧ Hid (Below w.heap.size w wr)) (fun _ i _ => (RowKit.intOf i + 1).toNat)
  case atStart =>
    refine ⟨n, p, Nat.le_refl _, rfl, rfl, ?_, ?_, (Below.refl _ _).alloc (Nat.le_refl _) _⟩
    · show _ = _; rw [List.drop_of_length_le (by rw [HL.out]; omega)]; simp [pr]
    · rw [List.drop_of_length_le (by rw [ixL_len, HL.out]; omega), List.append_nil]; exact HO0
  case round =>
    obtain ⟨k, Q, hk, rfl, rfl, HQ, HO, HB⟩ := hrel
    by_cases h0 : 0 < k
    · obtain ⟨j, rfl⟩ : ∃ j, k = j + 1 := ⟨k - 1, by omega⟩
      have e0 : ((j + 1 : Nat) : Int) - 1 = j := by omega
      rw [e0]
      have hj : j < n := by omega
      have hj' : (j : Int) < n := by omega
      have hL := H.out.below HB.out (Nat.le_refl _)
      obtain ⟨b1, o1, rfl, hb1, hc1⟩ := H.out.mem (by omega)
      have d1 := (HB.out.cell (p := ⟨b1, o1 + j, none⟩) hb1).trans (hc1 j hj)
      have d4 : (wr.setCell ⟨w.heap.size, j, none⟩ (.int .i64 ((ixL s p).getD j 0))).cell? ⟨b1, o1 + j, none⟩ = some (.int .i64 (s.getD j 0)) := by
        rw [World.cell?_setCell_far _ _ _ _ (by dsimp only; omega)]; exact d1
      have d2 : ∃ v, wr.cell? ⟨w.heap.size, j, none⟩ = some v := by
        rw [HO.out.cellAt j (by omega)]
        exact ⟨_, List.getElem?_eq_getElem (by have := HO.out.1; rw [this]; omega)⟩
      obtain ⟨v0, d2⟩ := d2
      have d3 := HO.out.frozenAt j
      have hx1 := HS.out j (by rw [HL.out]; omega)
      have hx2 := (hL.rng j).2
      have hq1 : 0 ≤ Q := by rw [← HQ.out]; exact Int.ediv_nonneg hp.1 (by have := pr_drop_pos HS.out (j + 1); omega)
      have hq2 : Q ≤ 1000000 := by rw [← HQ.out]; exact Int.le_trans (Int.ediv_le_self _ hp.1) hp.2
      have hix := ixL_at (s := s) (p := p) (k := j) (by rw [HL.out]; omega)
      rw [HQ.out] at hix
      have hq3 : p / pr (s.drop j) = Q / s.getD j 0 := by
        rw [pr_drop (by rw [HL.out]; omega), Int.mul_comm]
        have hd := Int.ediv_ediv (x := p) (y := pr (s.drop (j + 1))) (z := s.getD j 0)
        rw [if_neg (by have := pr_drop_pos HS.out (j + 1); omega), Int.sub_zero, HQ.out] at hd
        exact hd.symm
      have HO2 := Lib.hid ((HO.out.stored j (.int .i64 ((ixL s p).getD j 0))).1)
      have hset := set_ix (L := ixL s p) (k := j) (by rw [ixL_len, HL.out]; omega)
      rw [← List.map_set, hset] at HO2
      obtain ⟨x, HX⟩ : ∃ x, Hid (s.getD j 0 = x) := ⟨_, rfl⟩
      obtain ⟨y, HY⟩ : ∃ y, Hid ((ixL s p).getD j 0 = y) := ⟨_, rfl⟩
      rw [HX.out] at d1 d4 hx1 hx2 hix hq3
      rw [HY.out] at hix HO2 d4
      have m1 : Q.tmod x = y := by rw [hix, Int.tmod_eq_emod_of_nonneg hq1]
      have m2 : Q.tdiv x = Q / x := Int.tdiv_eq_ediv_of_nonneg hq1
      have m3 : 0 ≤ Q / x ∧ Q / x ≤ Q := ⟨Int.ediv_nonneg hq1 (by omega), Int.ediv_le_self _ hq1⟩
      have m4 : 0 ≤ y ∧ y < x := by rw [hix]; exact ⟨Int.emod_nonneg _ (by omega), Int.emod_lt_of_pos _ (by omega)⟩
      obtain ⟨Q2, HQ2⟩ : ∃ Q2, Hid (Q / x = Q2) := ⟨_, rfl⟩
      rw [HQ2.out] at m2 m3 hq3
      have HQ3 := Lib.hid hq3
      have m5 : IntKind.i64.wrap y = y := IntWalk.i64_in _ (by omega)
      have m6 : IntKind.i64.wrap Q2 = Q2 := IntWalk.i64_in _ (by omega)
      have m7 : (x == 0) = false := by simp; omega
      have m8 : ¬ x = 0 := by omega
      have m9 : IntKind.i64.wrap ((j : Int) - 1) = j - 1 := IntWalk.i64_in _ (by omega)
      have HB2 := Lib.hid (HB.out.setCell (show w.heap.size ≤ (⟨w.heap.size, j, none⟩ : Addr).block from Nat.le_refl _) (.int .i64 y))
      clear hL hc1 hb1 hx1 hx2 hq1 hq2 hix hq3 hset m3 m4 HX HY
      go_wp2
      go_roundw
      case rel => exact ⟨j, Q2, by omega, rfl, rfl, HQ3, HO2, HB2⟩
      case measure => simp [RowKit.intOf]
    · obtain rfl : k = 0 := by omega
      have hout := HO.out
      simp only [List.replicate_zero, List.nil_append, List.drop_zero] at hout
      have HF : Hid (MadeL w (ixL s p) (.returned (.slice (some ⟨w.heap.size, 0, none⟩) n n)) wr) := by
        refine ⟨_, _, _, rfl, ls_of_own hout (by omega) (fun i => ?_), hout, HB.out⟩
        by_cases hi : i < s.length
        · have h1 := ixL_rng (p := p) HS.out i hi
          have h2 := (H.out.rng i).2
          omega
        · rw [show (ixL s p).getD i 0 = 0 by simp [List.getD, ixL, hi]]; omega
      clear hout
      go_wp2
      go_ret
      exact HF.out
def atL (s : List Int) (p : Int) : List Int := if mayE s = 0 ∧ 0 ≤ p ∧ p < pr s then ixL s p else []
def atE (s : List Int) (p : Int) : Int := if mayE s = 0 then if 0 ≤ p ∧ p < pr s then 0 else 13 else mayE s
end Go.Proofs.Ythackmkdicpdeaa
namespace Go.Proofs.Ythackmkdicpdeaa
open Go.RowKit Go.Lib
set_option linter.unusedVariables false
set_option linter.unusedSimpArgs false
attribute [local go_sem] alloc_drewN setCell_drewN

theorem Ls.take {w : World} {ao : Option Addr} {n c : Nat} {zs : List Int} (h : Ls w ao n c zs) {k : Nat} (hk : k ≤ n) : Ls w ao k c (zs.take k) := by
  have h1 := h.len; have h2 := h.cap; have h3 := h.big
  refine ⟨by simp; omega, by omega, by omega, h.top, fun h0 => ?_, fun i => ?_⟩
  · obtain ⟨b, off, e, hlt, hc⟩ := h.mem (by omega)
    exact ⟨b, off, e, hlt, fun i hi => by rw [hc i (by omega)]; simp [List.getD, hi]⟩
  · by_cases hi : i < k
    · have := h.rng i; simpa [List.getD, hi] using this
    · rw [show (zs.take k).getD i 0 = 0 by simp [List.getD, List.getElem?_take, hi]]; omega
theorem MadeL.ofC {w : World} {ao : Option Addr} {n : Nat} {zs : List Int} {e : Ending} {w' : World} (h : Cloned w 3 ao n zs e w') : MadeL w zs e w' := by
  obtain ⟨ao', c', h1, h2, h3, h4⟩ := h; exact ⟨_, _, _, h1, h2, h3, h4⟩
/-- What Agree tells. -/
def agL (s t : List Int) : List Int := if s.length < t.length then if t.take s.length = s then t else [] else if s.take t.length = t then s else []
def agE (s t : List Int) : Int := if s.length < t.length then if t.take s.length = s then 0 else 11 else if s.take t.length = t then 0 else 11
set_option maxRecDepth 100000 in
set_option maxHeartbeats 400000 in
theorem agree_any {w : World} {a1 a2 : Option Addr} {n1 c1 n2 c2 : Nat} {s t : List Int} (h1 : Ls w a1 n1 c1 s) (h2 : Ls w a2 n2 c2 t) :
    Calls Try.prog 82 #[.slice a1 n1 c1, .slice a2 n2 c2] w (MadeS w (agL s t) (agE s t)) := by
  have hl1 := h1.len
  have hl2 := h2.len
  have hc1 := h1.cap
  have hc2 := h2.cap
  have g1 := h1.big
  have g2 := h2.big
  have g3 := h1.top
  have g4 := h2.top
  unfold maxLen at g3 g4
  by_cases hlt : n1 < n2
  · have hlt' : (n1 : Int) < n2 := by omega
    have CE := Lib.hid (equal_any (h2.take (show n1 ≤ n2 by omega)) h1)
    have CC := Lib.hid (fun w' (hb : Below w.heap.size w w') => clone_any (h2.below hb (Nat.le_refl _)))
    have eL : agL s t = if t.take n1 = s then t else [] := by unfold agL; rw [hl1, hl2, if_pos hlt]
    have eE : agE s t = if t.take n1 = s then 0 else 11 := by unfold agE; rw [hl1, hl2, if_pos hlt]
    rw [eL, eE]
    have y1 : (n1 : Int) ≤ c2 := by omega
    clear h1 h2 eL eE hl1 hl2
    by_cases hq : t.take n1 = s
    · rw [if_pos hq, if_pos hq]
      simp only [hq, decide_true] at CE
      go_enter Try.func82, Try.ntmps82
      go_wp2_with fail
      refine CE.out.mono ?_; rintro e' w' ⟨rfl, q, rfl⟩
      go_wp2_with fail
      refine (CC.out _ (below_drewN (Below.refl _ _) q)).mono ?_; rintro e' w2 ⟨ao', c', rfl, hL, hO, hB⟩
      have HF : Hid (MadeS w t 0 (.returned (.tuple #[.slice ao' n2 c', .int .i64 0])) w2) := ⟨_, _, _, rfl, hL, hO, (below_drewN (Below.refl _ _) q).trans hB⟩
      clear hL hO hB
      go_wp2
      go_ret2
      exact HF.out
    · rw [if_neg hq, if_neg hq]
      simp only [hq, decide_false] at CE
      go_enter Try.func82, Try.ntmps82
      go_wp2_with fail
      refine CE.out.mono ?_; rintro e' w' ⟨rfl, q, rfl⟩
      go_wp2
      go_ret2
      exact MadeS.nil _ (below_drewN (Below.refl _ _) q)
  · have hlt' : (n2 : Int) ≤ n1 := by omega
    have CE := Lib.hid (equal_any (h1.take (show n2 ≤ n1 by omega)) h2)
    have CC := Lib.hid (fun w' (hb : Below w.heap.size w w') => clone_any (h1.below hb (Nat.le_refl _)))
    have eL : agL s t = if s.take n2 = t then s else [] := by unfold agL; rw [hl1, hl2, if_neg hlt]
    have eE : agE s t = if s.take n2 = t then 0 else 11 := by unfold agE; rw [hl1, hl2, if_neg hlt]
    rw [eL, eE]
    have y1 : (n2 : Int) ≤ c1 := by omega
    clear h1 h2 eL eE hl1 hl2
    by_cases hq : s.take n2 = t
    · rw [if_pos hq, if_pos hq]
      simp only [hq, decide_true] at CE
      go_enter Try.func82, Try.ntmps82
      go_wp2_with fail
      refine CE.out.mono ?_; rintro e' w' ⟨rfl, q, rfl⟩
      go_wp2_with fail
      refine (CC.out _ (below_drewN (Below.refl _ _) q)).mono ?_; rintro e' w2 ⟨ao', c', rfl, hL, hO, hB⟩
      have HF : Hid (MadeS w s 0 (.returned (.tuple #[.slice ao' n1 c', .int .i64 0])) w2) := ⟨_, _, _, rfl, hL, hO, (below_drewN (Below.refl _ _) q).trans hB⟩
      clear hL hO hB
      go_wp2
      go_ret2
      exact HF.out
    · rw [if_neg hq, if_neg hq]
      simp only [hq, decide_false] at CE
      go_enter Try.func82, Try.ntmps82
      go_wp2_with fail
      refine CE.out.mono ?_; rintro e' w' ⟨rfl, q, rfl⟩
      go_wp2
      go_ret2
      exact MadeS.nil _ (below_drewN (Below.refl _ _) q)
/-- Two rows of the call's own. -/
def MadeLL (w : World) (xs ys : List Int) (e : Ending) (w' : World) : Prop :=
  ∃ ao n c bo m d, e = .returned (.tuple #[.slice ao n c, .slice bo m d]) ∧ Ls w' ao n c xs ∧ Ls w' bo m d ys ∧ w'.ownsRow w.heap.size 3 1 (.slice ao n c) n (xs.map (Value.int .i64)) ∧ w'.ownsRow w.heap.size 3 1 (.slice bo m d) m (ys.map (Value.int .i64)) ∧
    (∀ g, (Value.slice ao n c).ownBlock = some g → (Value.slice bo m d).ownBlock ≠ some g) ∧ Below w.heap.size w w'
theorem mll {w w2 w3 : World} {ao1 ao2 : Option Addr} {n1 c1 n2 c2 : Nat} {xs ys xs' ys' : List Int} (hB1 : Below w.drew.heap.size w.drew w2) (hO1 : w2.ownsRow w.drew.heap.size 3 1 (.slice ao1 n1 c1) n1 (xs.map (Value.int .i64))) (hL1 : Ls w2 ao1 n1 c1 xs)
    (hB2 : Below w2.heap.size w2 w3) (hO2 : w3.ownsRow w2.heap.size 3 1 (.slice ao2 n2 c2) n2 (ys.map (Value.int .i64))) (hL2 : Ls w3 ao2 n2 c2 ys) (ex : xs' = xs) (ey : ys' = ys) :
    MadeLL w xs' ys' (.returned (.tuple #[.slice ao1 n1 c1, .slice ao2 n2 c2])) w3 := by
  subst ex ey
  have hs : w.heap.size ≤ w2.heap.size := hB1.size
  have hB1' : Below w.heap.size w w2 := (Below.refl _ _).drew.trans hB1
  refine ⟨_, _, _, _, _, _, rfl, hL1.below hB2 (Nat.le_refl _), hL2, own_below hO1 hB2 (Nat.le_refl _), own_mono hO2 hs, fun g h1 h2 => ?_, hB1'.trans (hB2.mono hs)⟩
  have q1 := own_block hO1 h1
  have q2 := own_block hO2 h2
  omega
/-- Where Split cuts. -/
def spN (k : Nat) (rank : Int) : Nat := if rank < 0 then if -(k : Int) ≤ rank then (-rank).toNat else k else k - rank.toNat
set_option maxRecDepth 100000 in
set_option maxHeartbeats 400000 in
theorem split_0 {w : World} {ao : Option Addr} {n c : Nat} {s : List Int} (h : Ls w ao n c s) (r : Int) (hr : -9223372036854775808 ≤ r ∧ r ≤ 9223372036854775807) (hcase : r < -(n : Int)) (q : Nat) (hq : q = spN n r) :
    Calls Try.prog 60 #[.slice ao n c, .int .i64 r] w (MadeLL w (s.take q) (s.drop q)) := by
  have hc1 := h.cap
  have hl := h.len
  have g1 := h.big
  have g3 := h.top
  unfold maxLen at g3
  unfold spN at hq
  obtain rfl : q = n := by split at hq <;> (try split at hq) <;> omega
  have z5 : IntKind.i64.wrap (q : Int) = q := IntWalk.i64_in _ (by omega)
  have z0 : r < 0 := by omega
  have z1 : ¬ -(q : Int) ≤ r := by omega
  have z2 : IntKind.i64.wrap (-(q : Int)) = -q := IntWalk.i64_in _ (by omega)
  have zq : True := trivial
  have hqn : q <= q := by omega
  have y0 : (0 : Int) ≤ q := by omega
  have y1 : ((q : Nat) : Int) ≤ c := by omega
  have y2 : ((q : Nat) : Int) ≤ q := by omega
  have y3 : (q : Int) ≤ c := by omega
  have y4 : (q : Int) - q = (q - q : Nat) := by omega
  clear hq zq
  have CA := Lib.hid (fun w' (hb : Below w.heap.size w w') => clone_any ((h.take (k := q) (by omega)).below hb (Nat.le_refl _)))
  have hd0 : Below w.heap.size w w.drew := (Below.refl _ _).drew
  have HL := Lib.hid hl
  clear hl
  by_cases hcq : c = q
  · have CB := Lib.hid (fun w' (hb : Below w.heap.size w w') => clone_any (Ls.zero w' ao (Nat.zero_le _ : 0 ≤ maxLen)))
    have HE : Hid (s.drop q = []) := by show _ = _; exact List.drop_of_length_le (by rw [HL.out]; omega)
    clear h
    subst hcq
    go_enter Try.func60, Try.ntmps60
    go_wp2_with fail
    go_region_held3 (fun _ => True) (trivial)
      (first
        | (go_at_call 63; (with_reducible refine Calls.mono (CA.out _ ?_) ?_); (assumption); rintro e w2 ⟨ao1, c1, rfl, hL1, hO1, hB1⟩; have hB1' := hd0.trans hB1)
        | (go_at_call 63; (with_reducible refine Calls.mono (CB.out _ ?_) ?_); (assumption); rintro e w3 ⟨ao2, c2, rfl, hL2, hO2, hB2⟩))
    have HF := Lib.hid (mll hB1 hO1 hL1 hB2 hO2 hL2 rfl HE.out)
    clear hB1 hO1 hL1 hB2 hO2 hL2 hB1'
    go_wp2
    go_ret2
    exact HF.out
  · have y5 : ¬ c = q := by omega
    have CB0 := fun w' (hb : Below w.heap.size w w') => (h.cutA q (q - q) (by omega)).below hb (Nat.le_refl _)
    simp only [Nat.sub_self, Nat.sub_zero] at CB0
    have CB := Lib.hid (fun w' (hb : Below w.heap.size w w') => clone_any (CB0 w' hb))
    have HE : Hid (s.drop q = (s.drop q).take (0)) := by show _ = _; rw [List.take_of_length_le]; rw [List.length_drop, HL.out]; omega
    clear h CB0
    go_enter Try.func60, Try.ntmps60
    go_wp2_with fail
    go_region_held3 (fun _ => True) (trivial)
      (first
        | (go_at_call 63; (with_reducible refine Calls.mono (CA.out _ ?_) ?_); (assumption); rintro e w2 ⟨ao1, c1, rfl, hL1, hO1, hB1⟩; have hB1' := hd0.trans hB1)
        | (go_at_call 63; (with_reducible refine Calls.mono (CB.out _ ?_) ?_); (assumption); rintro e w3 ⟨ao2, c2, rfl, hL2, hO2, hB2⟩))
    have HF := Lib.hid (mll hB1 hO1 hL1 hB2 hO2 hL2 rfl HE.out)
    clear hB1 hO1 hL1 hB2 hO2 hL2 hB1'
    go_wp2
    go_ret2
    exact HF.out
set_option maxRecDepth 100000 in
set_option maxHeartbeats 400000 in
theorem split_1 {w : World} {ao : Option Addr} {n c : Nat} {s : List Int} (h : Ls w ao n c s) (r : Int) (hr : -9223372036854775808 ≤ r ∧ r ≤ 9223372036854775807) (hcase : -(n : Int) ≤ r ∧ r < 0) (q : Nat) (hq : q = spN n r) :
    Calls Try.prog 60 #[.slice ao n c, .int .i64 r] w (MadeLL w (s.take q) (s.drop q)) := by
  have hc1 := h.cap
  have hl := h.len
  have g1 := h.big
  have g3 := h.top
  unfold maxLen at g3
  unfold spN at hq
  have z2 : IntKind.i64.wrap (-(n : Int)) = -n := IntWalk.i64_in _ (by omega)
  have zq : (q : Int) = -r := by split at hq <;> (try split at hq) <;> omega
  obtain ⟨d, hd⟩ : ∃ d : Nat, (n : Int) + r = d := ⟨(n + r).toNat, by omega⟩
  have z1 : IntKind.i64.wrap ((n : Int) + r) = d := by rw [hd]; exact IntWalk.i64_in _ (by omega)
  have z3 : IntKind.i64.wrap ((n : Int) - d) = q := by rw [show (n : Int) - d = q by omega]; exact IntWalk.i64_in _ (by omega)
  have hqn : q <= n := by omega
  have y0 : (0 : Int) ≤ q := by omega
  have y1 : ((q : Nat) : Int) ≤ c := by omega
  have y2 : ((q : Nat) : Int) ≤ n := by omega
  have y3 : (n : Int) ≤ c := by omega
  have y4 : (n : Int) - q = (n - q : Nat) := by omega
  clear hq zq
  clear hd
  have CA := Lib.hid (fun w' (hb : Below w.heap.size w w') => clone_any ((h.take (k := q) (by omega)).below hb (Nat.le_refl _)))
  have hd0 : Below w.heap.size w w.drew := (Below.refl _ _).drew
  have HL := Lib.hid hl
  clear hl
  by_cases hcq : c = q
  · have CB := Lib.hid (fun w' (hb : Below w.heap.size w w') => clone_any (Ls.zero w' ao (Nat.zero_le _ : 0 ≤ maxLen)))
    have HE : Hid (s.drop q = []) := by show _ = _; exact List.drop_of_length_le (by rw [HL.out]; omega)
    clear h
    obtain rfl : n = q := by omega
    subst hcq
    have z9 : IntKind.i64.wrap (0 : Int) = 0 := IntWalk.i64_in _ (by omega)
    go_enter Try.func60, Try.ntmps60
    go_wp2_with fail
    go_region_held3 (fun _ => True) (trivial)
      (first
        | (go_at_call 63; (with_reducible refine Calls.mono (CA.out _ ?_) ?_); (assumption); rintro e w2 ⟨ao1, c1, rfl, hL1, hO1, hB1⟩; have hB1' := hd0.trans hB1)
        | (go_at_call 63; (with_reducible refine Calls.mono (CB.out _ ?_) ?_); (assumption); rintro e w3 ⟨ao2, c2, rfl, hL2, hO2, hB2⟩))
    have HF := Lib.hid (mll hB1 hO1 hL1 hB2 hO2 hL2 rfl HE.out)
    clear hB1 hO1 hL1 hB2 hO2 hL2 hB1'
    go_wp2
    go_ret2
    exact HF.out
  · have y5 : ¬ c = q := by omega
    have CB0 := fun w' (hb : Below w.heap.size w w') => (h.cutA q (n - q) (by omega)).below hb (Nat.le_refl _)
    have CB := Lib.hid (fun w' (hb : Below w.heap.size w w') => clone_any (CB0 w' hb))
    have HE : Hid (s.drop q = (s.drop q).take (n - q)) := by show _ = _; rw [List.take_of_length_le]; rw [List.length_drop, HL.out]; omega
    clear h CB0
    go_enter Try.func60, Try.ntmps60
    go_wp2_with fail
    go_region_held3 (fun _ => True) (trivial)
      (first
        | (go_at_call 63; (with_reducible refine Calls.mono (CA.out _ ?_) ?_); (assumption); rintro e w2 ⟨ao1, c1, rfl, hL1, hO1, hB1⟩; have hB1' := hd0.trans hB1)
        | (go_at_call 63; (with_reducible refine Calls.mono (CB.out _ ?_) ?_); (assumption); rintro e w3 ⟨ao2, c2, rfl, hL2, hO2, hB2⟩))
    have HF := Lib.hid (mll hB1 hO1 hL1 hB2 hO2 hL2 rfl HE.out)
    clear hB1 hO1 hL1 hB2 hO2 hL2 hB1'
    go_wp2
    go_ret2
    exact HF.out
set_option maxRecDepth 100000 in
set_option maxHeartbeats 400000 in
theorem split_2 {w : World} {ao : Option Addr} {n c : Nat} {s : List Int} (h : Ls w ao n c s) (r : Int) (hr : -9223372036854775808 ≤ r ∧ r ≤ 9223372036854775807) (hcase : 0 ≤ r ∧ r < n) (q : Nat) (hq : q = spN n r) :
    Calls Try.prog 60 #[.slice ao n c, .int .i64 r] w (MadeLL w (s.take q) (s.drop q)) := by
  have hc1 := h.cap
  have hl := h.len
  have g1 := h.big
  have g3 := h.top
  unfold maxLen at g3
  unfold spN at hq
  have zq : (q : Int) = n - r := by split at hq <;> (try split at hq) <;> omega
  have z4 : min r (n : Int) = r := by omega
  have z1 : IntKind.i64.wrap ((n : Int) - r) = q := by rw [show (n : Int) - r = q by omega]; exact IntWalk.i64_in _ (by omega)
  have hqn : q <= n := by omega
  have y0 : (0 : Int) ≤ q := by omega
  have y1 : ((q : Nat) : Int) ≤ c := by omega
  have y2 : ((q : Nat) : Int) ≤ n := by omega
  have y3 : (n : Int) ≤ c := by omega
  have y4 : (n : Int) - q = (n - q : Nat) := by omega
  clear hq zq
  have CA := Lib.hid (fun w' (hb : Below w.heap.size w w') => clone_any ((h.take (k := q) (by omega)).below hb (Nat.le_refl _)))
  have hd0 : Below w.heap.size w w.drew := (Below.refl _ _).drew
  have HL := Lib.hid hl
  clear hl
  by_cases hcq : c = q
  · have CB := Lib.hid (fun w' (hb : Below w.heap.size w w') => clone_any (Ls.zero w' ao (Nat.zero_le _ : 0 ≤ maxLen)))
    have HE : Hid (s.drop q = []) := by show _ = _; exact List.drop_of_length_le (by rw [HL.out]; omega)
    clear h
    obtain rfl : n = q := by omega
    subst hcq
    have z9 : IntKind.i64.wrap (0 : Int) = 0 := IntWalk.i64_in _ (by omega)
    go_enter Try.func60, Try.ntmps60
    go_wp2_with fail
    go_region_held3 (fun _ => True) (trivial)
      (first
        | (go_at_call 63; (with_reducible refine Calls.mono (CA.out _ ?_) ?_); (assumption); rintro e w2 ⟨ao1, c1, rfl, hL1, hO1, hB1⟩; have hB1' := hd0.trans hB1)
        | (go_at_call 63; (with_reducible refine Calls.mono (CB.out _ ?_) ?_); (assumption); rintro e w3 ⟨ao2, c2, rfl, hL2, hO2, hB2⟩))
    have HF := Lib.hid (mll hB1 hO1 hL1 hB2 hO2 hL2 rfl HE.out)
    clear hB1 hO1 hL1 hB2 hO2 hL2 hB1'
    go_wp2
    go_ret2
    exact HF.out
  · have y5 : ¬ c = q := by omega
    have CB0 := fun w' (hb : Below w.heap.size w w') => (h.cutA q (n - q) (by omega)).below hb (Nat.le_refl _)
    have CB := Lib.hid (fun w' (hb : Below w.heap.size w w') => clone_any (CB0 w' hb))
    have HE : Hid (s.drop q = (s.drop q).take (n - q)) := by show _ = _; rw [List.take_of_length_le]; rw [List.length_drop, HL.out]; omega
    clear h CB0
    go_enter Try.func60, Try.ntmps60
    go_wp2_with fail
    go_region_held3 (fun _ => True) (trivial)
      (first
        | (go_at_call 63; (with_reducible refine Calls.mono (CA.out _ ?_) ?_); (assumption); rintro e w2 ⟨ao1, c1, rfl, hL1, hO1, hB1⟩; have hB1' := hd0.trans hB1)
        | (go_at_call 63; (with_reducible refine Calls.mono (CB.out _ ?_) ?_); (assumption); rintro e w3 ⟨ao2, c2, rfl, hL2, hO2, hB2⟩))
    have HF := Lib.hid (mll hB1 hO1 hL1 hB2 hO2 hL2 rfl HE.out)
    clear hB1 hO1 hL1 hB2 hO2 hL2 hB1'
    go_wp2
    go_ret2
    exact HF.out
set_option maxRecDepth 100000 in
set_option maxHeartbeats 400000 in
theorem split_3 {w : World} {ao : Option Addr} {n c : Nat} {s : List Int} (h : Ls w ao n c s) (r : Int) (hr : -9223372036854775808 ≤ r ∧ r ≤ 9223372036854775807) (hcase : (n : Int) ≤ r) (q : Nat) (hq : q = spN n r) :
    Calls Try.prog 60 #[.slice ao n c, .int .i64 r] w (MadeLL w (s.take q) (s.drop q)) := by
  have hc1 := h.cap
  have hl := h.len
  have g1 := h.big
  have g3 := h.top
  unfold maxLen at g3
  unfold spN at hq
  obtain rfl : q = 0 := by split at hq <;> (try split at hq) <;> omega
  have z4 : min r (n : Int) = n := by omega
  have z5 : IntKind.i64.wrap (0 : Int) = 0 := IntWalk.i64_in _ (by omega)
  have z0 : ¬ r < 0 := by omega
  have zq : True := trivial
  have hqn : 0 <= n := by omega
  have y0 : (0 : Int) ≤ 0 := by omega
  have y1 : ((0 : Nat) : Int) ≤ c := by omega
  have y2 : ((0 : Nat) : Int) ≤ n := by omega
  have y3 : (n : Int) ≤ c := by omega
  have y4 : (n : Int) - 0 = (n - 0 : Nat) := by omega
  clear hq zq
  have CA := Lib.hid (fun w' (hb : Below w.heap.size w w') => clone_any ((h.take (k := 0) (by omega)).below hb (Nat.le_refl _)))
  have hd0 : Below w.heap.size w w.drew := (Below.refl _ _).drew
  have HL := Lib.hid hl
  clear hl
  by_cases hcq : c = 0
  · have CB := Lib.hid (fun w' (hb : Below w.heap.size w w') => clone_any (Ls.zero w' ao (Nat.zero_le _ : 0 ≤ maxLen)))
    have HE : Hid (s.drop 0 = []) := by show _ = _; exact List.drop_of_length_le (by rw [HL.out]; omega)
    clear h
    obtain rfl : n = 0 := by omega
    subst hcq
    have z10 : min r (0 : Int) = 0 := by omega
    have z9 : IntKind.i64.wrap (0 : Int) = 0 := IntWalk.i64_in _ (by omega)
    go_enter Try.func60, Try.ntmps60
    go_wp2_with fail
    go_region_held3 (fun _ => True) (trivial)
      (first
        | (go_at_call 63; (with_reducible refine Calls.mono (CA.out _ ?_) ?_); (assumption); rintro e w2 ⟨ao1, c1, rfl, hL1, hO1, hB1⟩; have hB1' := hd0.trans hB1)
        | (go_at_call 63; (with_reducible refine Calls.mono (CB.out _ ?_) ?_); (assumption); rintro e w3 ⟨ao2, c2, rfl, hL2, hO2, hB2⟩))
    have HF := Lib.hid (mll hB1 hO1 hL1 hB2 hO2 hL2 rfl HE.out)
    clear hB1 hO1 hL1 hB2 hO2 hL2 hB1'
    go_wp2
    go_ret2
    exact HF.out
  · have y5 : ¬ c = 0 := by omega
    have CB0 := fun w' (hb : Below w.heap.size w w') => h.below hb (Nat.le_refl _)
    have CB := Lib.hid (fun w' (hb : Below w.heap.size w w') => clone_any (CB0 w' hb))
    have HE : Hid (s.drop 0 = s) := List.drop_zero
    clear h CB0
    go_enter Try.func60, Try.ntmps60
    go_wp2_with fail
    go_region_held3 (fun _ => True) (trivial)
      (first
        | (go_at_call 63; (with_reducible refine Calls.mono (CA.out _ ?_) ?_); (assumption); rintro e w2 ⟨ao1, c1, rfl, hL1, hO1, hB1⟩; have hB1' := hd0.trans hB1)
        | (go_at_call 63; (with_reducible refine Calls.mono (CB.out _ ?_) ?_); (assumption); rintro e w3 ⟨ao2, c2, rfl, hL2, hO2, hB2⟩))
    have HF := Lib.hid (mll hB1 hO1 hL1 hB2 hO2 hL2 rfl HE.out)
    clear hB1 hO1 hL1 hB2 hO2 hL2 hB1'
    go_wp2
    go_ret2
    exact HF.out
theorem split_any {w : World} {ao : Option Addr} {n c : Nat} {s : List Int} (h : Ls w ao n c s) (r : Int) (hr : -9223372036854775808 ≤ r ∧ r ≤ 9223372036854775807) :
    Calls Try.prog 60 #[.slice ao n c, .int .i64 r] w (MadeLL w (s.take (spN n r)) (s.drop (spN n r))) := by
  by_cases h0 : r < -(n : Int)
  · exact split_0 h r hr h0 _ rfl
  · by_cases h1 : r < 0
    · exact split_1 h r hr ⟨by omega, h1⟩ _ rfl
    · by_cases h2 : r < n
      · exact split_2 h r hr ⟨by omega, h2⟩ _ rfl
      · exact split_3 h r hr (by omega) _ rfl
end Go.Proofs.Ythackmkdicpdeaa
namespace Go.Proofs.Ythackmkdicpdeaa
open Go.RowKit Go.Lib
set_option linter.unusedVariables false
set_option linter.unusedSimpArgs false
attribute [local go_sem] alloc_drewN setCell_drewN

/-- A shape's length on the axis i of N, 1 where it has none. -/
def frL (s : List Int) (N i : Nat) : Int := if i < N - s.length then 1 else s.getD (i - (N - s.length)) 0
set_option maxHeartbeats 400000 in
theorem from_any {w : World} {ao : Option Addr} {n c : Nat} {s : List Int} (h : Ls w ao n c s) {bn N : Nat} (hc : w.cell? ⟨bn, 0, none⟩ = some (.int .i64 N)) (hn : n ≤ N) (hN : N ≤ 140737488351232) (i : Nat) (hi : i < N) :
    Calls Try.prog 98 #[.slice ao n c, .int .i64 i, .pointer (some ⟨bn, 0, none⟩)] w (RetS w (.int .i64 (frL s N i))) := by
  have hl := h.len
  have z1 : IntKind.i64.wrap ((N : Int) - n) = (N - n : Nat) := by rw [show (N : Int) - n = (N - n : Nat) by omega]; exact IntWalk.i64_in _ (by omega)
  by_cases hlt : i < N - n
  · rw [show frL s N i = 1 by unfold frL; rw [hl, if_pos hlt]]
    have hlt' : (i : Int) < (N - n : Nat) := by omega
    clear h hl
    go_enter Try.func98, Try.ntmps98
    go_wp2
    go_ret
    exact RetS.mk rfl
  · obtain ⟨j, hj⟩ : ∃ j, i = N - n + j := ⟨i - (N - n), by omega⟩
    rw [show frL s N i = s.getD j 0 by unfold frL; rw [hl, if_neg hlt, show i - (N - n) = j by omega]]
    have hlt' : ((N - n : Nat) : Int) ≤ i := by omega
    have z2 : IntKind.i64.wrap ((i : Int) - (N - n : Nat)) = j := by rw [show (i : Int) - (N - n : Nat) = j by omega]; exact IntWalk.i64_in _ (by omega)
    have hjn : j < n := by omega
    have hjn' : (j : Int) < n := by omega
    obtain ⟨b1, o1, rfl, hc1⟩ := h.at (by omega)
    have d1 := hc1 j hjn
    clear h hl hc1 hj
    go_enter Try.func98, Try.ntmps98
    go_wp2
    go_ret
    exact RetS.mk rfl
/-- The common shape of two. -/
def bthL (s t : List Int) : List Int := (List.range (max s.length t.length)).map fun i => max (frL s (max s.length t.length) i) (frL t (max s.length t.length) i)
theorem bthL_len (s t : List Int) : (bthL s t).length = max s.length t.length := by simp [bthL]
theorem set_take {L : List Int} {k N : Nat} (hN : N = L.length) (h : k < N) : (L.take k ++ List.replicate (N - k) (0 : Int)).set k (L.getD k 0) = L.take (k + 1) ++ List.replicate (N - (k + 1)) 0 := by
  subst hN
  have hl : (L.take k).length = k := by simp; omega
  rw [List.set_append_right _ _ (by omega), hl, Nat.sub_self]
  obtain ⟨q, hq⟩ : ∃ q, L.length - k = q + 1 := ⟨L.length - k - 1, by omega⟩
  rw [hq, show L.length - (k + 1) = q by omega, List.replicate_succ (n := q), List.set_cons_zero, take_snoc h, List.append_assoc]
  rfl
theorem frL_rng {s : List Int} (h : ∀ i, -9223372036854775808 ≤ s.getD i 0 ∧ s.getD i 0 ≤ 9223372036854775807) (N i : Nat) : -9223372036854775808 ≤ frL s N i ∧ frL s N i ≤ 9223372036854775807 := by
  unfold frL; split
  · omega
  · exact h _
theorem bthL_rng {s t : List Int} (hs : ∀ i, -9223372036854775808 ≤ s.getD i 0 ∧ s.getD i 0 ≤ 9223372036854775807) (ht : ∀ i, -9223372036854775808 ≤ t.getD i 0 ∧ t.getD i 0 ≤ 9223372036854775807) (i : Nat) :
    -9223372036854775808 ≤ (bthL s t).getD i 0 ∧ (bthL s t).getD i 0 ≤ 9223372036854775807 := by
  by_cases hi : i < max s.length t.length
  · have h1 := frL_rng hs (max s.length t.length) i
    have h2 := frL_rng ht (max s.length t.length) i
    have : (bthL s t).getD i 0 = max (frL s (max s.length t.length) i) (frL t (max s.length t.length) i) := by simp [bthL, List.getD, hi]
    rw [this]; omega
  · rw [show (bthL s t).getD i 0 = 0 by simp [bthL, List.getD, hi]]; omega
set_option maxRecDepth 100000 in
set_option maxHeartbeats 800000 in
theorem both_any {w : World} {a1 a2 : Option Addr} {n1 c1 n2 c2 : Nat} {s t : List Int} (h1 : Ls w a1 n1 c1 s) (h2 : Ls w a2 n2 c2 t) (hb1 : n1 ≤ 1000000) (hb2 : n2 ≤ 1000000) :
    Calls Try.prog 88 #[.slice a1 n1 c1, .slice a2 n2 c2] w (MadeL w (bthL s t)) := by
  have hl1 := h1.len
  have hl2 := h2.len
  obtain ⟨N, hN⟩ : ∃ N, N = max n1 n2 := ⟨_, rfl⟩
  have hNb : N ≤ 1000000 := by omega
  have hmk := fun w => mk_int N hNb w
  have hmf : ∀ (fn : Fn) (first cap : Array Value) (w : World), (Instr.makeFunc fn first cap).run Try.prog w = .ok (.func fn first cap) w := fun _ _ _ _ => rfl
  have z1 : max (n1 : Int) n2 = N := by omega
  have hLN : N = (bthL s t).length := by rw [bthL_len, hl1, hl2, hN]
  have hg : ∀ k, k < N → (bthL s t).getD k 0 = max (frL s N k) (frL t N k) := fun k hk => by
    have e : max s.length t.length = N := by rw [hl1, hl2, hN]
    simp [bthL, List.getD, e, hk]
  obtain ⟨W, HWW⟩ : ∃ W, Hid ((w.alloc (.cells #[.int .i64 N] 3)).alloc (.cells (Array.replicate N (.int .i64 0)) 3) = W) := ⟨_, rfl⟩
  have hw : Below w.heap.size w W := by rw [← HWW.out]; exact ((Below.refl _ _).alloc (Nat.le_refl _) _).alloc (by simp) _
  have hsz : W.heap.size = w.heap.size + 2 := by rw [← HWW.out]; simp
  have hO := own_zeros (w.alloc (.cells #[.int .i64 N] 3)) 3 N (w.heap.size + 1) hNb (by simp)
  rw [HWW.out, show (w.alloc (.cells #[.int .i64 N] 3)).heap.size = w.heap.size + 1 by simp] at hO
  have hX : W.cell? ⟨w.heap.size, 0, none⟩ = some (.int .i64 N) := by rw [← HWW.out]; simp [go_sem]
  have HX := Lib.hid hX
  have HO0 := Lib.hid hO
  have HW := Lib.hid hw
  have HG := Lib.hid hg
  have HLN := Lib.hid hLN
  have SZ := Lib.hid hsz
  have F1 := Lib.hid (fun wr (hB : Below (w.heap.size + 1) W wr) => fun i (hi : i < N) => from_any (bn := w.heap.size) (h1.below (hw.trans (hB.mono (Nat.le_succ _))) (Nat.le_refl _)) ((hB.cell (p := ⟨w.heap.size, 0, none⟩) (Nat.lt_succ_self _)).trans hX) (show n1 ≤ N by omega) (by omega) i hi)
  have F2 := Lib.hid (fun wr (hB : Below (w.heap.size + 1) W wr) => fun i (hi : i < N) => from_any (bn := w.heap.size) (h2.below (hw.trans (hB.mono (Nat.le_succ _))) (Nat.le_refl _)) ((hB.cell (p := ⟨w.heap.size, 0, none⟩) (Nat.lt_succ_self _)).trans hX) (show n2 ≤ N by omega) (by omega) i hi)
  have HR1 := Lib.hid h1.rng
  have HR2 := Lib.hid h2.rng
  clear h1 h2 hO hw hg hLN hsz hX hl1 hl2 hN
  go_enter Try.func88, Try.ntmps88
  go_wp2_with fail
  rw [HWW.out]
  go_loopw [19] (fun i wr => ∃ k : Nat, k ≤ N ∧ i = .int .i64 k ∧ Hid (wr.ownsRow (w.heap.size + 1) 3 1 (.slice (some ⟨w.heap.size + 1, 0, none⟩) N N) N (((bthL s t).take k ++ List.replicate (N - k) (0 : Int)).map (Value.int .i64))) ∧ Hid (Below (w.heap.size + 1) W wr)) (fun i _ => N - (RowKit.intOf i).toNat)
  case atStart => exact ⟨0, Nat.zero_le _, rfl, by simpa using HO0, Below.refl _ _⟩
  case round =>
    obtain ⟨k, hk, rfl, HO, HB⟩ := hrel
    by_cases hlt : k < N
    · have hlt' : (k : Int) < N := by omega
      have d2 : ∃ v, wr.cell? ⟨w.heap.size + 1, k, none⟩ = some v := by
        rw [HO.out.cellAt k (by omega)]
        exact ⟨_, List.getElem?_eq_getElem (by have := HO.out.1; rw [this]; omega)⟩
      obtain ⟨v0, d2⟩ := d2
      have d3 := HO.out.frozenAt k
      have HO2 := Lib.hid ((HO.out.stored k (.int .i64 ((bthL s t).getD k 0))).1)
      rw [← List.map_set, set_take HLN.out hlt, HG.out k hlt] at HO2
      have HB2 := Lib.hid (HB.out.setCell (show w.heap.size + 1 ≤ (⟨w.heap.size + 1, k, none⟩ : Addr).block from Nat.le_refl _) (.int .i64 (max (frL s N k) (frL t N k))))
      have G1 := Lib.hid (F1.out wr HB.out k hlt)
      have G2 := Lib.hid (F2.out wr HB.out k hlt)
      obtain ⟨x, HX1⟩ : ∃ x, Hid (frL s N k = x) := ⟨_, rfl⟩
      obtain ⟨y, HY1⟩ : ∃ y, Hid (frL t N k = y) := ⟨_, rfl⟩
      rw [HX1.out] at G1 HO2 HB2
      rw [HY1.out] at G2 HO2 HB2
      go_wp2_with fail
      refine G1.out.mono ?_; rintro e' w' ⟨rfl, hw'⟩
      have hw'' := hw'.symm
      subst hw''
      go_wp2_with fail
      refine G2.out.mono ?_; rintro e' w' ⟨rfl, hw'⟩
      have hw'' := hw'.symm
      subst hw''
      go_wp2
      go_roundw
      case rel => exact ⟨k + 1, by omega, by go_num, HO2, HB2⟩
      case measure => simp [RowKit.intOf]; omega
    · obtain rfl : k = N := by omega
      have hge : (k : Int) ≤ k := Int.le_refl _
      have hout := HO.out
      rw [Nat.sub_self, List.replicate_zero, List.append_nil, List.take_of_length_le (by rw [← HLN.out]; omega)] at hout
      have HF : Hid (MadeL w (bthL s t) (.returned (.slice (some ⟨w.heap.size + 1, 0, none⟩) k k)) wr) := by
        exact ⟨_, _, _, rfl, ls_of_own hout (by omega) (bthL_rng HR1.out HR2.out), own_mono hout (Nat.le_succ _), HW.out.trans (HB.out.mono (Nat.le_succ _))⟩
      clear hout
      go_wp2
      go_ret
      exact HF.out
/-- A slice value reads as a list of lists. -/
structure Lss (w : World) (ao : Option Addr) (n c : Nat) (zss : List (List Int)) : Prop where
  len : zss.length = n
  cap : n ≤ c
  big : n * 8 ≤ 140737488351232
  top : c ≤ maxLen
  mem : 0 < n → ∃ b off, ao = some ⟨b, off, none⟩ ∧ b < w.heap.size ∧ ∀ i, i < n → ∃ ai ni ci, w.cell? ⟨b, off + i, none⟩ = some (.slice ai ni ci) ∧ Ls w ai ni ci (zss.getD i [])
theorem Lss.below {w w' : World} {ao : Option Addr} {n c : Nat} {zss : List (List Int)} (h : Lss w ao n c zss) {B : Nat} (hb : Below B w w') (hB : w.heap.size ≤ B) : Lss w' ao n c zss :=
  ⟨h.len, h.cap, h.big, h.top, fun h0 => by
    obtain ⟨b, off, e, hlt, hc⟩ := h.mem h0
    refine ⟨b, off, e, by have := hb.size; omega, fun i hi => ?_⟩
    obtain ⟨ai, ni, ci, h1, h2⟩ := hc i hi
    exact ⟨ai, ni, ci, (hb.cell (p := ⟨b, off + i, none⟩) (by show b < B; omega)).trans h1, h2.below hb hB⟩⟩
/-- What Cover tells. -/
def cvGo (c : List Int) : List (List Int) → List Int × Int
  | [] => (c, 0)
  | s :: r => if mayE s = 0 then if mayE (bthL c s) = 0 then cvGo (bthL c s) r else ([], 17) else ([], mayE s)
def cvR : List (List Int) → List Int × Int
  | [] => ([], 1)
  | s :: r => if mayE s = 0 then cvGo s r else ([], mayE s)
theorem cvGo_step {c : List Int} {zss : List (List Int)} {k : Nat} (h : k < zss.length) :
    cvGo c (zss.drop k) = if mayE (zss.getD k []) = 0 then if mayE (bthL c (zss.getD k [])) = 0 then cvGo (bthL c (zss.getD k [])) (zss.drop (k + 1)) else ([], 17) else ([], mayE (zss.getD k [])) := by
  rw [List.drop_eq_getElem_cons h]
  simp only [List.getD, List.getElem?_eq_getElem h, Option.getD_some]
  rfl
theorem cvR_step {zss : List (List Int)} (h : 0 < zss.length) : cvR zss = if mayE (zss.getD 0 []) = 0 then cvGo (zss.getD 0 []) (zss.drop 1) else ([], mayE (zss.getD 0 [])) := by
  cases zss with
  | nil => simp at h
  | cons s r => rfl
set_option maxRecDepth 100000 in
set_option maxHeartbeats 800000 in
theorem cover_any {w : World} {ao : Option Addr} {n c : Nat} {zss : List (List Int)} (h : Lss w ao n c zss) :
    Calls Try.prog 68 #[.slice ao n c] w (MadeS w (cvR zss).1 (cvR zss).2) := by
  have hl := h.len
  have g1 := h.big
  obtain ⟨R, HR⟩ : ∃ R, Hid (cvR zss = R) := ⟨_, rfl⟩
  rw [HR.out]
  by_cases h0 : n = 0
  · subst h0
    obtain rfl : R = ([], 1) := by rw [← HR.out, List.eq_nil_of_length_eq_zero hl]; rfl
    clear h hl HR
    go_enter Try.func68, Try.ntmps68
    go_wp2
    go_ret2
    exact MadeS.nil _ (Below.refl _ _)
  have hn0 : ((n : Int) == 0) = false := by simp; omega
  have hn1 : (n == 0) = false := by simp; omega
  have H := Lib.hid h
  have HL := Lib.hid hl
  clear h hl
  go_enter Try.func68, Try.ntmps68
  go_wp2_with fail
  go_loopw [4, 13] (fun v i wr => ∃ (k : Nat) (co : Option Addr) (cn cc : Nat), k ≤ n ∧ i = .int .i64 k ∧ v = .slice co cn cc ∧ Hid (Below w.heap.size w wr) ∧ Hid (0 < k → ∃ cl, Ls wr co cn cc cl ∧ wr.ownsRow w.heap.size 3 1 (.slice co cn cc) cn (cl.map (Value.int .i64)) ∧ mayE cl = 0 ∧ cvGo cl (zss.drop k) = R)) (fun _ i _ => n - (RowKit.intOf i).toNat)
  case atStart => exact ⟨0, none, 0, 0, Nat.zero_le _, rfl, rfl, Below.refl _ _, fun h => absurd h (by omega)⟩
  case round =>
    obtain ⟨k, co, cn, cc, hk, rfl, rfl, HB, HC⟩ := hrel
    by_cases hlt : k < n
    · have hlt' : (k : Int) < n := by omega
      obtain ⟨b, off, rfl, hlb, hcs⟩ := (H.out.below HB.out (Nat.le_refl _)).mem (by omega)
      obtain ⟨ai, ni, ci, d1, hs⟩ := hcs k hlt
      have CM := Lib.hid (may_any hs)
      obtain ⟨s, HS⟩ : ∃ s, Hid (zss.getD k [] = s) := ⟨_, rfl⟩
      rw [HS.out] at CM hs
      have HLS := Lib.hid hs
      clear hcs hlb hs
      by_cases hm : ¬ mayE s = 0
      · have hR : R = ([], mayE s) := by
          by_cases hk0 : 0 < k
          · obtain ⟨cl, -, -, -, h4⟩ := HC.out hk0
            rw [← h4, cvGo_step (by rw [HL.out]; exact hlt), HS.out, if_neg hm]
          · obtain rfl : k = 0 := by omega
            rw [← HR.out, cvR_step (by rw [HL.out]; exact hlt), HS.out, if_neg hm]
        subst hR
        obtain ⟨e, HE⟩ : ∃ e, Hid (mayE s = e) := ⟨_, rfl⟩
        rw [HE.out] at CM hm
        have hm' : (e != 0) = true := by simpa using hm
        have HF : Hid (MadeS w [] (mayE s) (.returned (.tuple #[.slice none 0 0, .int .i64 e])) wr) := by rw [HE.out]; exact MadeS.nil _ HB.out
        clear hm
        go_wp2_with fail
        refine CM.out.mono ?_; rintro e' w' ⟨rfl, hw'⟩
        have hw'' := hw'.symm
        subst hw''
        go_wp2
        go_ret2
        exact HF.out
      have hm : mayE s = 0 := by simpa using hm
      rw [hm] at CM
      by_cases hk0 : ¬ 0 < k
      · obtain rfl : k = 0 := by omega
        rw [Nat.add_zero] at d1
        have HR2 : Hid (cvGo s (zss.drop 1) = R) := by show _ = _; rw [← HR.out, cvR_step (by rw [HL.out]; exact hlt), HS.out, if_pos hm]
        have HMS := Lib.hid hm
        have CC := Lib.hid (clone_any HLS.out)
        clear hm hk0
        go_wp2_with fail
        refine CM.out.mono ?_; rintro e' w' ⟨rfl, hw'⟩
        have hw'' := hw'.symm
        subst hw''
        go_wp2_with fail
        refine CC.out.mono ?_; rintro e' w2 ⟨co2, cc2, rfl, hL2, hO2, hB2⟩
        have HB2 : Hid (Below w.heap.size w w2) := HB.out.trans (hB2.mono HB.out.size)
        have HC2 : Hid (0 < 0 + 1 → ∃ cl, Ls w2 co2 ni cc2 cl ∧ w2.ownsRow w.heap.size 3 1 (.slice co2 ni cc2) ni (cl.map (Value.int .i64)) ∧ mayE cl = 0 ∧ cvGo cl (zss.drop (0 + 1)) = R) := fun _ => ⟨s, hL2, own_mono hO2 HB.out.size, HMS.out, HR2.out⟩
        clear hL2 hO2 hB2
        go_wp2
        go_roundw
        case rel => exact ⟨0 + 1, co2, ni, cc2, by omega, by go_num, rfl, HB2, HC2⟩
        case measure => simp [RowKit.intOf]; omega
      have hk0 : 0 < k := by omega
      obtain ⟨cl, hcl1, hcl2, hcl3, hcl4⟩ := HC.out hk0
      have hk1 : ((k : Int) == 0) = false := by simp; omega
      have hk2 : (k == 0) = false := by simp; omega
      have hstep := cvGo_step (c := cl) (zss := zss) (k := k) (by rw [HL.out]; exact hlt)
      rw [hcl4, HS.out, if_pos hm] at hstep
      have hb1 := (mayE_zero hcl3).2.1
      have hb2 := (mayE_zero hm).2.1
      have CB := Lib.hid (both_any hcl1 HLS.out (by have := hcl1.len; omega) (by have := HLS.out.len; omega))
      clear hcl1 hcl2 hcl3 hcl4 hb1 hb2 hm hk0
      by_cases hq : mayE (bthL cl s) = 0
      · rw [if_pos hq] at hstep
        have HST := Lib.hid hstep
        have HQ := Lib.hid hq
        clear hstep hq
        go_wp2_with fail
        refine CM.out.mono ?_; rintro e' w' ⟨rfl, hw'⟩
        have hw'' := hw'.symm
        subst hw''
        go_wp2_with fail
        refine CB.out.mono ?_; rintro e' w2 ⟨co2, cn2, cc2, rfl, hL2, hO2, hB2⟩
        have CM2 := Lib.hid (may_any hL2)
        rw [HQ.out] at CM2
        have HB2 : Hid (Below w.heap.size w w2) := HB.out.trans (hB2.mono HB.out.size)
        have HC2 : Hid (0 < k + 1 → ∃ cl, Ls w2 co2 cn2 cc2 cl ∧ w2.ownsRow w.heap.size 3 1 (.slice co2 cn2 cc2) cn2 (cl.map (Value.int .i64)) ∧ mayE cl = 0 ∧ cvGo cl (zss.drop (k + 1)) = R) := fun _ => ⟨_, hL2, own_mono hO2 HB.out.size, HQ.out, HST.out.symm⟩
        clear hL2 hO2 hB2
        go_wp2_with fail
        refine CM2.out.mono ?_; rintro e' w' ⟨rfl, hw'⟩
        have hw'' := hw'.symm
        subst hw''
        go_wp2
        go_roundw
        case rel => exact ⟨k + 1, co2, cn2, cc2, by omega, by go_num, rfl, HB2, HC2⟩
        case measure => simp [RowKit.intOf]; omega
      · rw [if_neg hq] at hstep
        subst hstep
        obtain ⟨e, HE⟩ : ∃ e, Hid (mayE (bthL cl s) = e) := ⟨_, rfl⟩
        rw [HE.out] at hq
        have hq' : (e != 0) = true := by simpa using hq
        clear hq
        go_wp2_with fail
        refine CM.out.mono ?_; rintro e' w' ⟨rfl, hw'⟩
        have hw'' := hw'.symm
        subst hw''
        go_wp2_with fail
        refine CB.out.mono ?_; rintro e' w2 ⟨co2, cn2, cc2, rfl, hL2, hO2, hB2⟩
        have CM2 := Lib.hid (may_any hL2)
        rw [HE.out] at CM2
        have HF : Hid (MadeS w [] 17 (.returned (.tuple #[.slice none 0 0, .int .i64 17])) w2) := MadeS.nil _ (HB.out.trans (hB2.mono HB.out.size))
        clear hL2 hO2 hB2
        go_wp2_with fail
        refine CM2.out.mono ?_; rintro e' w' ⟨rfl, hw'⟩
        have hw'' := hw'.symm
        subst hw''
        go_wp2
        go_ret2
        exact HF.out
    · obtain rfl : k = n := by omega
      have hge : (k : Int) ≤ k := Int.le_refl _
      obtain ⟨cl, hcl1, hcl2, hcl3, hcl4⟩ := HC.out (by omega)
      obtain rfl : R = (cl, 0) := by rw [← hcl4, List.drop_of_length_le (by rw [HL.out]; omega)]; rfl
      have HF : Hid (MadeS w cl 0 (.returned (.tuple #[.slice co cn cc, .int .i64 0])) wr) := ⟨_, _, _, rfl, hcl1, hcl2, HB.out⟩
      clear hcl1 hcl2 hcl3 hcl4
      go_wp2
      go_ret2
      exact HF.out
end Go.Proofs.Ythackmkdicpdeaa

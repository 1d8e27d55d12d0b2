/- Places and indices, there and back: no program in sight; and the contract of rises. -/
import Derived.Test.YtoippfoeghjdoaaRangeAll
import Derived.Test.YtoippfoeghjdoaaAppend
namespace Go.Proofs.Ytoippfoeghjdoaa
open Go.RowKit Go.Lib
set_option linter.unusedVariables false
set_option linter.unusedSimpArgs false
attribute [local go_sem] alloc_drewN setCell_drewN

theorem div_step {s : List Int} {p : Int} (hs : ∀ i, i < s.length → 1 ≤ s.getD i 0) {k : Nat} (hk : k < s.length) : p / pr (s.drop k) = p / pr (s.drop (k + 1)) / s.getD k 0 := by
  rw [pr_drop hk, Int.mul_comm]
  have hd := Int.ediv_ediv (x := p) (y := pr (s.drop (k + 1))) (z := s.getD k 0)
  rw [if_neg (by have := pr_drop_pos hs (k + 1); omega), Int.sub_zero] at hd
  exact hd.symm
theorem plN_ix {s : List Int} {p : Int} (hs : ∀ i, i < s.length → 1 ≤ s.getD i 0) (hp : 0 ≤ p ∧ p < pr s) (k : Nat) (hk : k ≤ s.length) : plN s (ixL s p) k = p / pr (s.drop k) := by
  induction k with
  | zero => rw [List.drop_zero, Int.ediv_eq_zero_of_lt hp.1 hp.2]; rfl
  | succ k ih =>
    simp only [plN]
    rw [ih (by omega), ixL_at (by omega), div_step hs (by omega), Int.mul_comm]
    exact Int.mul_ediv_add_emod _ _
theorem plN_ixL {s : List Int} {p : Int} (hs : ∀ i, i < s.length → 1 ≤ s.getD i 0) (hp : 0 ≤ p ∧ p < pr s) : plN s (ixL s p) s.length = p := by
  rw [plN_ix hs hp _ (Nat.le_refl _), List.drop_length]
  show p / 1 = p
  simp
theorem place_ix {s : List Int} {p : Int} (hm : mayE s = 0) (hp : 0 ≤ p ∧ p < pr s) : plV s (ixL s p) = p ∧ plE s (ixL s p) = 0 := by
  obtain ⟨g1, g2, g3⟩ := mayE_zero hm
  have hs := pos_all g1 (by omega)
  have hr : inR s (ixL s p) s.length := fun i hi => ixL_rng hs i hi
  exact ⟨by rw [plV, if_pos ⟨hm, ixL_len s p, hr⟩, plN_ixL hs hp], by rw [plE, if_pos hm, if_pos (ixL_len s p), if_pos hr]⟩
theorem pl_split {s t : List Int} (hs : ∀ i, i < s.length → 1 ≤ s.getD i 0) (hr : inR s t s.length) : ∀ d k, d + k = s.length → ∃ r, plN s t s.length = plN s t k * pr (s.drop k) + r ∧ 0 ≤ r ∧ r < pr (s.drop k)
  | 0, k, h => by
    obtain rfl : k = s.length := by omega
    exact ⟨0, by rw [List.drop_length]; simp [pr], by omega, by rw [List.drop_length]; simp [pr]⟩
  | d + 1, k, h => by
    obtain ⟨r, h1, h2, h3⟩ := pl_split hs hr d (k + 1) (by omega)
    have hk := hr k (by omega)
    have hD := pr_drop_pos hs (k + 1)
    refine ⟨t.getD k 0 * pr (s.drop (k + 1)) + r, ?_, ?_, ?_⟩
    · rw [h1, pr_drop (show k < s.length by omega)]
      simp only [plN]
      rw [Int.add_mul, Int.mul_assoc, Int.add_assoc]
    · have := Int.mul_nonneg hk.1 (show 0 ≤ pr (s.drop (k + 1)) by omega); omega
    · rw [pr_drop (show k < s.length by omega)]
      have h5 : (t.getD k 0 + 1) * pr (s.drop (k + 1)) ≤ s.getD k 0 * pr (s.drop (k + 1)) := Int.mul_le_mul_of_nonneg_right (by omega) (by omega)
      rw [Int.add_mul, Int.one_mul] at h5
      omega
theorem ix_plN {s t : List Int} (hs : ∀ i, i < s.length → 1 ≤ s.getD i 0) (hl : t.length = s.length) (hr : inR s t s.length) : ixL s (plN s t s.length) = t := by
  apply List.ext_getElem (by rw [ixL_len, hl])
  intro i h1 h2
  have hi : i < s.length := by rw [ixL_len] at h1; exact h1
  obtain ⟨r, e1, e2, e3⟩ := pl_split hs hr (s.length - (i + 1)) (i + 1) (by omega)
  have e4 : (ixL s (plN s t s.length)).getD i 0 = t.getD i 0 := by
    rw [ixL_at hi, e1]
    have hD := pr_drop_pos hs (i + 1)
    rw [Int.add_ediv_of_dvd_left (Int.dvd_mul_left _ _), Int.mul_ediv_cancel _ (by omega), Int.ediv_eq_zero_of_lt e2 e3, Int.add_zero]
    simp only [plN]
    have hk := hr i hi
    rw [Int.add_comm, Int.add_mul_emod_self_right, Int.emod_eq_of_lt hk.1 hk.2]
  simp only [List.getD, List.getElem?_eq_getElem h1, List.getElem?_eq_getElem h2, Option.getD_some] at e4
  exact e4
theorem at_place {s t : List Int} (h : plE s t = 0) : atE s (plV s t) = 0 ∧ atL s (plV s t) = t := by
  have hm : mayE s = 0 := by
    rcases Classical.em (mayE s = 0) with h1 | h1
    · exact h1
    · rw [plE, if_neg h1] at h; exact h
  rw [plE, if_pos hm] at h
  have hl : t.length = s.length := by
    rcases Classical.em (t.length = s.length) with h1 | h1
    · exact h1
    · rw [if_neg h1] at h; omega
  rw [if_pos hl] at h
  have hr : inR s t s.length := by
    rcases Classical.em (inR s t s.length) with h1 | h1
    · exact h1
    · rw [if_neg h1] at h; omega
  obtain ⟨g1, g2, g3⟩ := mayE_zero hm
  have hb := plN_bd g1 (Nat.le_refl _) hr
  rw [List.take_length] at hb
  have hv : plV s t = plN s t s.length := by rw [plV, if_pos ⟨hm, hl, hr⟩]
  have hs := pos_all g1 (by omega)
  rw [hv]
  exact ⟨by rw [atE, if_pos hm, if_pos hb], by rw [atL, if_pos ⟨hm, hb.1, hb.2⟩, ix_plN hs hl hr]⟩
/-- The first list stands ahead of the second in row order. -/
def Ahead (a b : List Int) : Prop := ∃ i, i < a.length ∧ i < b.length ∧ (∀ j, j < i → a.getD j 0 = b.getD j 0) ∧ a.getD i 0 < b.getD i 0
theorem ix_ahead {s : List Int} {p q : Int} (hs : ∀ i, i < s.length → 1 ≤ s.getD i 0) (hp : 0 ≤ p) (hpq : p < q) (hq : q < pr s) : Ahead (ixL s p) (ixL s q) := by
  have h : ∀ k, k ≤ s.length → p / pr (s.drop k) ≠ q / pr (s.drop k) → ∃ i, i < k ∧ (∀ j, j < i → (ixL s p).getD j 0 = (ixL s q).getD j 0) ∧ (ixL s p).getD i 0 < (ixL s q).getD i 0 := by
    intro k
    induction k with
    | zero =>
      intro _ hne
      rw [List.drop_zero, Int.ediv_eq_zero_of_lt hp (by omega), Int.ediv_eq_zero_of_lt (by omega) hq] at hne
      exact absurd rfl hne
    | succ k ih =>
      intro hk hne
      by_cases he : p / pr (s.drop k) = q / pr (s.drop k)
      · refine ⟨k, by omega, fun j hj => ?_, ?_⟩
        · have hdiv : ∀ d, d + (j + 1) = k → p / pr (s.drop (j + 1)) = q / pr (s.drop (j + 1)) := by
            intro d hd
            have : ∀ d i, d + i = k → p / pr (s.drop i) = q / pr (s.drop i) := by
              intro d
              induction d with
              | zero => intro i hi; obtain rfl : i = k := by omega
                        exact he
              | succ d ihd => intro i hi; rw [div_step (p := p) hs (k := i) (by omega), div_step (p := q) hs (k := i) (by omega), ihd (i + 1) (by omega)]
            exact this d _ hd
          rw [ixL_at (by omega), ixL_at (by omega), hdiv (k - (j + 1)) (by omega)]
        · rw [ixL_at (by omega), ixL_at (by omega)]
          have hD := pr_drop_pos hs (k + 1)
          have hle : p / pr (s.drop (k + 1)) ≤ q / pr (s.drop (k + 1)) := Int.ediv_le_ediv (by omega) (by omega)
          rw [div_step (p := p) hs (k := k) (by omega), div_step (p := q) hs (k := k) (by omega)] at he
          have e1 := Int.mul_ediv_add_emod (p / pr (s.drop (k + 1))) (s.getD k 0)
          have e2 := Int.mul_ediv_add_emod (q / pr (s.drop (k + 1))) (s.getD k 0)
          rw [he] at e1
          omega
      · obtain ⟨i, h1, h2, h3⟩ := ih (by omega) he
        exact ⟨i, by omega, h2, h3⟩
  have hne : p / pr (s.drop s.length) ≠ q / pr (s.drop s.length) := by
    rw [List.drop_length]; show p / 1 ≠ q / 1; simp; omega
  obtain ⟨i, h1, h2, h3⟩ := h s.length (Nat.le_refl _) hne
  exact ⟨i, by rw [ixL_len]; exact h1, by rw [ixL_len]; exact h1, h2, h3⟩
/-- append of a slice that reads as a list to a row that the call owns, within a fence. -/
theorem wpListIn_append_ls {F : Fence} {nF : Nat} {P : Program} (w : World) {ops : Array Oper} {rest : List Oper} {o : Oper} {a : Act} {Q : Exit → Act → World → Prop} (hgd : o.guard = none) (s x : Operand) (t : TypeId)
    (ho : o.op = .call { callee := .builtin .append, args := #[s, x], argTypes := #[t, t] })
    (base : Nat) (e : TypeId) (i : TypeInfo) (ht : P.underlying t = some (.slice e)) (hi : P.info? e = some i) (hz : i.zero = some (.int .i64 0)) (hsize : i.size = 1) (hby : i.bytes = 8)
    (v : Value) (n : Nat) (xs : List Int) (hs : a.eval s = v) (hown : w.ownsRow base e 1 v n (xs.map (Value.int .i64))) {ao : Option Addr} {m c : Nat} {zs : List Int} (hx : a.eval x = .slice ao m c) (hL : Ls w ao m c zs)
    (h63 : (n + m) * 8 ≤ 140737488355328) (hbase : base ≤ w.heap.size)
    (h : ∀ v' w', w'.ownsRow base e 1 v' (n + m) ((xs ++ zs).map (Value.int .i64)) → w.grownBy w' v.ownBlock → wpListIn F nF P ops Q rest (a.put o.dst v') w') : wpListIn F nF P ops Q (o :: rest) a w := by
  refine wpListIn_plain hgd fun K hK => ?_
  obtain ⟨v', w', hr, h2, h3⟩ := run_append_big (P := P) w base t o.type e i ht hi hz hsize hby v n xs hown hL h63 hbase
  unfold Oper.wpIn
  refine ⟨by simp [Oper.about, ho, resolve, Target.leads, Sem.run_pure], ?_⟩
  rw [Oper.semAt_plain F _ _ (by rw [ho]; intro c hc'; cases hc')]
  simp [execOp, ho, resolve, invoke, builtin, hs, hx, hr, Result.andThen]
  exact hK _ _ (h v' w' h2 h3)
end Go.Proofs.Ytoippfoeghjdoaa

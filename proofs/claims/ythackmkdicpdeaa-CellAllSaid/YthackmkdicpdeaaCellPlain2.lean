/- Places and indices, there and back: no program in sight; and the contract of rises. Cells and joined arrays: no program in sight. What a joiner is given, and what it tells: no program in sight. -/
import Derived.Test.YthackmkdicpdeaaRangeAll
import Derived.Test.YthackmkdicpdeaaHeap
import Derived.Test.YthackmkdicpdeaaShapeCover
namespace Go.Proofs.Ythackmkdicpdeaa
open Go.RowKit Go.Lib
set_option linter.unusedVariables false
set_option linter.unusedSimpArgs false
attribute [local go_sem] alloc_drewN setCell_drewN

theorem div_step {s : List Int} {p : Int} (hs : ∀ i, i < s.length → 1 ≤ s.getD i 0) {k : Nat} (hk : k < s.length) : p / pr (s.drop k) = p / pr (s.drop (k + 1)) / s.getD k 0 := by
  rw [pr_drop hk, Int.mul_comm]
  have hd := Int.ediv_ediv (x := p) (y := pr (s.drop (k + 1))) (z := s.getD k 0)
  rw [if_neg (by have := pr_drop_pos hs (k + 1); omega), Int.sub_zero] at hd
  exact hd.symm
theorem plN_ix {s : List Int} {p : Int} (hs : ∀ i, i < s.length → 1 ≤ s.getD i 0) (hp : 0 ≤ p ∧ p < pr s) (k : Nat) (hk : k ≤ s.length) : plN s (ixL s p) k = p / pr (s.drop k) := by
  induction k with
  | zero => rw [List.drop_zero, Int.ediv_eq_zero_of_lt hp.1 hp.2]; rfl
  | succ k ih =>
    simp only [plN]
    rw [ih (by omega), ixL_at (by omega), div_step hs (by omega), Int.mul_comm]
    exact Int.mul_ediv_add_emod _ _
theorem plN_ixL {s : List Int} {p : Int} (hs : ∀ i, i < s.length → 1 ≤ s.getD i 0) (hp : 0 ≤ p ∧ p < pr s) : plN s (ixL s p) s.length = p := by
  rw [plN_ix hs hp _ (Nat.le_refl _), List.drop_length]
  show p / 1 = p
  simp
theorem place_ix {s : List Int} {p : Int} (hm : mayE s = 0) (hp : 0 ≤ p ∧ p < pr s) : plV s (ixL s p) = p ∧ plE s (ixL s p) = 0 := by
  obtain ⟨g1, g2, g3⟩ := mayE_zero hm
  have hs := pos_all g1 (by omega)
  have hr : inR s (ixL s p) s.length := fun i hi => ixL_rng hs i hi
  exact ⟨by rw [plV, if_pos ⟨hm, ixL_len s p, hr⟩, plN_ixL hs hp], by rw [plE, if_pos hm, if_pos (ixL_len s p), if_pos hr]⟩
theorem pl_split {s t : List Int} (hs : ∀ i, i < s.length → 1 ≤ s.getD i 0) (hr : inR s t s.length) : ∀ d k, d + k = s.length → ∃ r, plN s t s.length = plN s t k * pr (s.drop k) + r ∧ 0 ≤ r ∧ r < pr (s.drop k)
  | 0, k, h => by
    obtain rfl : k = s.length := by omega
    exact ⟨0, by rw [List.drop_length]; simp [pr], by omega, by rw [List.drop_length]; simp [pr]⟩
  | d + 1, k, h => by
    obtain ⟨r, h1, h2, h3⟩ := pl_split hs hr d (k + 1) (by omega)
    have hk := hr k (by omega)
    have hD := pr_drop_pos hs (k + 1)
    refine ⟨t.getD k 0 * pr (s.drop (k + 1)) + r, ?_, ?_, ?_⟩
    · rw [h1, pr_drop (show k < s.length by omega)]
      simp only [plN]
      rw [Int.add_mul, Int.mul_assoc, Int.add_assoc]
    · have := Int.mul_nonneg hk.1 (show 0 ≤ pr (s.drop (k + 1)) by omega); omega
    · rw [pr_drop (show k < s.length by omega)]
      have h5 : (t.getD k 0 + 1) * pr (s.drop (k + 1)) ≤ s.getD k 0 * pr (s.drop (k + 1)) := Int.mul_le_mul_of_nonneg_right (by omega) (by omega)
      rw [Int.add_mul, Int.one_mul] at h5
      omega
theorem ix_plN {s t : List Int} (hs : ∀ i, i < s.length → 1 ≤ s.getD i 0) (hl : t.length = s.length) (hr : inR s t s.length) : ixL s (plN s t s.length) = t := by
  apply List.ext_getElem (by rw [ixL_len, hl])
  intro i h1 h2
  have hi : i < s.length := by rw [ixL_len] at h1; exact h1
  obtain ⟨r, e1, e2, e3⟩ := pl_split hs hr (s.length - (i + 1)) (i + 1) (by omega)
  have e4 : (ixL s (plN s t s.length)).getD i 0 = t.getD i 0 := by
    rw [ixL_at hi, e1]
    have hD := pr_drop_pos hs (i + 1)
    rw [Int.add_ediv_of_dvd_left (Int.dvd_mul_left _ _), Int.mul_ediv_cancel _ (by omega), Int.ediv_eq_zero_of_lt e2 e3, Int.add_zero]
    simp only [plN]
    have hk := hr i hi
    rw [Int.add_comm, Int.add_mul_emod_self_right, Int.emod_eq_of_lt hk.1 hk.2]
  simp only [List.getD, List.getElem?_eq_getElem h1, List.getElem?_eq_getElem h2, Option.getD_some] at e4
  exact e4
theorem at_place {s t : List Int} (h : plE s t = 0) : atE s (plV s t) = 0 ∧ atL s (plV s t) = t := by
  have hm : mayE s = 0 := by
    rcases Classical.em (mayE s = 0) with h1 | h1
    · exact h1
    · rw [plE, if_neg h1] at h; exact h
  rw [plE, if_pos hm] at h
  have hl : t.length = s.length := by
    rcases Classical.em (t.length = s.length) with h1 | h1
    · exact h1
    · rw [if_neg h1] at h; omega
  rw [if_pos hl] at h
  have hr : inR s t s.length := by
    rcases Classical.em (inR s t s.length) with h1 | h1
    · exact h1
    · rw [if_neg h1] at h; omega
  obtain ⟨g1, g2, g3⟩ := mayE_zero hm
  have hb := plN_bd g1 (Nat.le_refl _) hr
  rw [List.take_length] at hb
  have hv : plV s t = plN s t s.length := by rw [plV, if_pos ⟨hm, hl, hr⟩]
  have hs := pos_all g1 (by omega)
  rw [hv]
  exact ⟨by rw [atE, if_pos hm, if_pos hb], by rw [atL, if_pos ⟨hm, hb.1, hb.2⟩, ix_plN hs hl hr]⟩
/-- The first list stands ahead of the second in row order. -/
def Ahead (a b : List Int) : Prop := ∃ i, i < a.length ∧ i < b.length ∧ (∀ j, j < i → a.getD j 0 = b.getD j 0) ∧ a.getD i 0 < b.getD i 0
theorem ix_ahead {s : List Int} {p q : Int} (hs : ∀ i, i < s.length → 1 ≤ s.getD i 0) (hp : 0 ≤ p) (hpq : p < q) (hq : q < pr s) : Ahead (ixL s p) (ixL s q) := by
  have h : ∀ k, k ≤ s.length → p / pr (s.drop k) ≠ q / pr (s.drop k) → ∃ i, i < k ∧ (∀ j, j < i → (ixL s p).getD j 0 = (ixL s q).getD j 0) ∧ (ixL s p).getD i 0 < (ixL s q).getD i 0 := by
    intro k
    induction k with
    | zero =>
      intro _ hne
      rw [List.drop_zero, Int.ediv_eq_zero_of_lt hp (by omega), Int.ediv_eq_zero_of_lt (by omega) hq] at hne
      exact absurd rfl hne
    | succ k ih =>
      intro hk hne
      by_cases he : p / pr (s.drop k) = q / pr (s.drop k)
      · refine ⟨k, by omega, fun j hj => ?_, ?_⟩
        · have hdiv : ∀ d, d + (j + 1) = k → p / pr (s.drop (j + 1)) = q / pr (s.drop (j + 1)) := by
            intro d hd
            have : ∀ d i, d + i = k → p / pr (s.drop i) = q / pr (s.drop i) := by
              intro d
              induction d with
              | zero => intro i hi; obtain rfl : i = k := by omega
                        exact he
              | succ d ihd => intro i hi; rw [div_step (p := p) hs (k := i) (by omega), div_step (p := q) hs (k := i) (by omega), ihd (i + 1) (by omega)]
            exact this d _ hd
          rw [ixL_at (by omega), ixL_at (by omega), hdiv (k - (j + 1)) (by omega)]
        · rw [ixL_at (by omega), ixL_at (by omega)]
          have hD := pr_drop_pos hs (k + 1)
          have hle : p / pr (s.drop (k + 1)) ≤ q / pr (s.drop (k + 1)) := Int.ediv_le_ediv (by omega) (by omega)
          rw [div_step (p := p) hs (k := k) (by omega), div_step (p := q) hs (k := k) (by omega)] at he
          have e1 := Int.mul_ediv_add_emod (p / pr (s.drop (k + 1))) (s.getD k 0)
          have e2 := Int.mul_ediv_add_emod (q / pr (s.drop (k + 1))) (s.getD k 0)
          rw [he] at e1
          omega
      · obtain ⟨i, h1, h2, h3⟩ := ih (by omega) he
        exact ⟨i, by omega, h2, h3⟩
  have hne : p / pr (s.drop s.length) ≠ q / pr (s.drop s.length) := by
    rw [List.drop_length]; show p / 1 ≠ q / 1; simp; omega
  obtain ⟨i, h1, h2, h3⟩ := h s.length (Nat.le_refl _) hne
  exact ⟨i, by rw [ixL_len]; exact h1, by rw [ixL_len]; exact h1, h2, h3⟩
/-- append of a slice that reads as a list to a row that the call owns, within a fence. -/
theorem wpListIn_append_ls {F : Fence} {nF : Nat} {P : Program} (w : World) {ops : Array Oper} {rest : List Oper} {o : Oper} {a : Act} {Q : Exit → Act → World → Prop} (hgd : o.guard = none) (s x : Operand) (t : TypeId)
    (ho : o.op = .call { callee := .builtin .append, args := #[s, x], argTypes := #[t, t] })
    (base : Nat) (e : TypeId) (i : TypeInfo) (ht : P.underlying t = some (.slice e)) (hi : P.info? e = some i) (hz : i.zero = some (.int .i64 0)) (hsize : i.size = 1) (hby : i.bytes = 8)
    (v : Value) (n : Nat) (xs : List Int) (hs : a.eval s = v) (hown : w.ownsRow base e 1 v n (xs.map (Value.int .i64))) {ao : Option Addr} {m c : Nat} {zs : List Int} (hx : a.eval x = .slice ao m c) (hL : Ls w ao m c zs)
    (h63 : (n + m) * 8 ≤ 140737488355328) (hbase : base ≤ w.heap.size)
    (h : ∀ v' w', w'.ownsRow base e 1 v' (n + m) ((xs ++ zs).map (Value.int .i64)) → w.grownBy w' v.ownBlock → wpListIn F nF P ops Q rest (a.put o.dst v') w') : wpListIn F nF P ops Q (o :: rest) a w := by
  refine wpListIn_plain hgd fun K hK => ?_
  obtain ⟨v', w', hr, h2, h3⟩ := run_append_big (P := P) w base t o.type e i ht hi hz hsize hby v n xs hown hL h63 hbase
  unfold Oper.wpIn
  refine ⟨by simp [Oper.about, ho, resolve, Target.leads, Sem.run_pure], ?_⟩
  rw [Oper.semAt_plain F _ _ (by rw [ho]; intro c hc'; cases hc')]
  simp [execOp, ho, resolve, invoke, builtin, hs, hx, hr, Result.andThen]
  exact hK _ _ (h v' w' h2 h3)
end Go.Proofs.Ythackmkdicpdeaa
namespace Go.Proofs.Ythackmkdicpdeaa
open Go.RowKit Go.Lib
set_option linter.unusedVariables false
set_option linter.unusedSimpArgs false
theorem pr_app (s t : List Int) : pr (s ++ t) = pr s * pr t := by
  induction s with
  | nil => simp [pr]
  | cons x xs ih => rw [List.cons_append, pr_cons, pr_cons, ih, Int.mul_assoc]
theorem pm_cons' (x : Int) (xs : List Int) : pm (x :: xs) = max x 1 * pm xs := by
  have h : ∀ (l : List Int) (a b : Int), l.foldl (fun n k => n * max k 1) (a * b) = a * l.foldl (fun n k => n * max k 1) b := by
    intro l
    induction l with
    | nil => intro a b; rfl
    | cons y ys ih => intro a b; simp only [List.foldl_cons]; rw [Int.mul_assoc, ih]
  show List.foldl _ _ _ = _
  simp only [List.foldl_cons]
  rw [Int.mul_comm 1, h]
  rfl
theorem pm_app (s t : List Int) : pm (s ++ t) = pm s * pm t := by
  induction s with
  | nil => simp [pm]
  | cons x xs ih => rw [List.cons_append, pm_cons', pm_cons', ih, Int.mul_assoc]
theorem pm_pos (s : List Int) : 1 ≤ pm s := by
  have := (pm_up s s.length).1
  rwa [List.take_length] at this
theorem mayE_from {s : List Int} (h0 : ∀ i, 0 ≤ s.getD i 0) (h1 : s.length ≤ 8) (h2 : pm s ≤ 4096) : mayE s = 0 :=
  mayE_ok (by
    cases hb : s.any (fun k => decide (k < 0)) with
    | false => rfl
    | true => obtain ⟨i, -, hi⟩ := any_neg_iff.1 hb; have := h0 i; omega) (by omega) (by omega)
theorem getD_app {s t : List Int} (i : Nat) : (s ++ t).getD i 0 = if i < s.length then s.getD i 0 else t.getD (i - s.length) 0 := by
  simp only [List.getD]
  split
  · rename_i h; rw [List.getElem?_append_left h]
  · rename_i h; rw [List.getElem?_append_right (by omega)]
/-- A shape that may be: so may its beginning and its end. -/
theorem mayE_app {s t : List Int} (h : mayE (s ++ t) = 0) : mayE s = 0 ∧ mayE t = 0 := by
  obtain ⟨h0, h1, h2⟩ := mayE_zero h
  rw [List.length_append] at h1
  rw [pm_app] at h2
  have p1 := pm_pos s
  have p2 := pm_pos t
  obtain ⟨q1, q2⟩ := le_mul1 p1 p2
  refine ⟨mayE_from (fun i => ?_) (by omega) (by omega), mayE_from (fun i => ?_) (by omega) (by omega)⟩
  · by_cases hi : i < s.length
    · have := h0 i; rwa [getD_app, if_pos hi] at this
    · rw [show s.getD i 0 = 0 by simp [List.getD, List.getElem?_eq_none (Nat.le_of_not_lt hi)]]; omega
  · have := h0 (s.length + i); rwa [getD_app, if_neg (by omega), Nat.add_sub_cancel_left] at this
theorem pr_nonneg {s : List Int} (h : mayE s = 0) : 0 ≤ pr s ∧ pr s ≤ 4096 := by
  obtain ⟨h0, -, h2⟩ := mayE_zero h
  have := pr_le s h0 s.length
  rw [List.take_length] at this
  omega
theorem bthL_self {s : List Int} : bthL s s = s := by
  apply List.ext_getElem (by rw [bthL_len]; omega)
  intro i h1 h2
  simp [bthL, frL, h2]
/-- The i-th of the pieces of n numbers. -/
def ckL (n i : Nat) (a : List Int) : List Int := (a.drop (i * n)).take n
theorem ckL_len {n i m : Nat} {a : List Int} (h : a.length = m * n) (hi : i < m) : (ckL n i a).length = n := by
  obtain ⟨d, rfl⟩ : ∃ d, m = i + 1 + d := ⟨m - i - 1, by omega⟩
  rw [Nat.add_mul, Nat.succ_mul] at h
  simp only [ckL, List.length_take, List.length_drop]
  omega
theorem ck_flat {n m : Nat} {a : List Int} (h : a.length = m * n) : ((List.range m).map fun i => ckL n i a).flatten = a := by
  have : ∀ k, k ≤ m → ((List.range k).map fun i => ckL n i a).flatten = a.take (k * n) := by
    intro k
    induction k with
    | zero => intro _; simp
    | succ k ih =>
      intro hk
      rw [List.range_succ, List.map_append, List.flatten_append, ih (by omega), List.map_singleton, List.flatten_singleton, Nat.succ_mul, List.take_add]
      rfl
  rw [this m (Nat.le_refl _), ← h, List.take_length]
/-- What is laid down of an array in k rounds. -/
def oneS (c s : List Int) : List Int := List.replicate (c.length - s.length) 1 ++ s
def layG (c s a : List Int) : Nat → List Int
  | 0 => List.replicate (pr c).toNat 0
  | k + 1 => (layG c s a k).set (plN c (ixL (oneS c s) k) c.length).toNat (a.getD k 0)
def layL (c s a : List Int) : List Int := layG c s a (pr (oneS c s)).toNat
theorem layG_len (c s a : List Int) (k : Nat) : (layG c s a k).length = (pr c).toNat := by
  induction k with
  | zero => simp [layG]
  | succ k ih => simp [layG, ih]
theorem layL_len (c s a : List Int) : (layL c s a).length = (pr c).toNat := layG_len _ _ _ _
theorem oneS_len {c s : List Int} (h : s.length ≤ c.length) : (oneS c s).length = c.length := by simp [oneS]; omega
theorem oneS_at {c s : List Int} (i : Nat) : (oneS c s).getD i 0 = if i < c.length - s.length then 1 else s.getD (i - (c.length - s.length)) 0 := by
  unfold oneS
  rw [getD_app, List.length_replicate]
  split
  · rename_i h; simp [List.getD, h]
  · rfl
theorem pr_ones (n : Nat) : pr (List.replicate n 1) = 1 := by
  induction n with
  | zero => rfl
  | succ n ih => rw [List.replicate_succ, pr_cons, ih]; rfl
theorem pr_oneS (c s : List Int) : pr (oneS c s) = pr s := by unfold oneS; rw [pr_app, pr_ones, Int.one_mul]
/-- A shape that another one covers. -/
def Cov (c s : List Int) : Prop := s.length ≤ c.length ∧ ∀ i, i < c.length → (oneS c s).getD i 0 ≤ c.getD i 0
theorem layG_at {c s a : List Int} (hc : 0 ≤ pr c) (q : Nat) (hq : q < (pr c).toNat) (k : Nat) (hb : ∀ j, j < k → 0 ≤ plN c (ixL (oneS c s) j) c.length ∧ plN c (ixL (oneS c s) j) c.length < pr c)
    (hi : ∀ j j', j < k → j' < k → plN c (ixL (oneS c s) j) c.length = plN c (ixL (oneS c s) j') c.length → j = j') :
    (∀ j, j < k → plN c (ixL (oneS c s) j) c.length = q → (layG c s a k).getD q 0 = a.getD j 0) ∧ ((∀ j, j < k → plN c (ixL (oneS c s) j) c.length ≠ q) → (layG c s a k).getD q 0 = 0) := by
  induction k with
  | zero => exact ⟨fun j hj => absurd hj (by omega), fun _ => by simp [layG, List.getD, hq]⟩
  | succ k ih =>
    obtain ⟨i1, i2⟩ := ih (fun j hj => hb j (by omega)) (fun j j' h h' => hi j j' (by omega) (by omega))
    have hk := hb k (by omega)
    have e : (layG c s a (k + 1)).getD q 0 = if plN c (ixL (oneS c s) k) c.length = q then a.getD k 0 else (layG c s a k).getD q 0 := by
      simp only [layG, List.getD, List.getElem?_set]
      by_cases h : plN c (ixL (oneS c s) k) c.length = q
      · rw [if_pos h, if_pos (by omega), if_pos (by rw [layG_len]; omega)]; rfl
      · rw [if_neg h, if_neg (by omega)]
    rw [e]
    refine ⟨fun j hj hjq => ?_, fun hn => ?_⟩
    · by_cases h : plN c (ixL (oneS c s) k) c.length = q
      · rw [if_pos h, hi j k hj (by omega) (by rw [hjq, h])]
      · rw [if_neg h]
        exact i1 j (by rcases Nat.lt_or_ge j k with h' | h'
                       · exact h'
                       · obtain rfl : j = k := by omega
                         exact absurd hjq h) hjq
    · rw [if_neg (hn k (by omega))]
      exact i2 fun j hj => hn j (by omega)
theorem oneS_pos {c s : List Int} (hs : mayE s = 0) (h : 0 < pr s) (i : Nat) (hi : i < (oneS c s).length) : 1 ≤ (oneS c s).getD i 0 := by
  rw [oneS_at]
  split
  · omega
  · have hp := pos_all (mayE_zero hs).1 h
    simp only [oneS, List.length_append, List.length_replicate] at hi
    exact hp _ (by omega)
theorem inR_up {c s t : List Int} (h : Cov c s) (hr : inR (oneS c s) t (oneS c s).length) : inR c t c.length := fun i hi => by
  have h1 := hr i (by rw [oneS_len h.1]; exact hi)
  have h2 := h.2 i hi
  omega
/-- What lies at a place of what was laid down. -/
theorem layL_at {c s a : List Int} (hm : mayE c = 0) (hs : mayE s = 0) (h : Cov c s) (q : Nat) (hq : q < (pr c).toNat) :
    (layL c s a).getD q 0 = if inR (oneS c s) (ixL c q) c.length then a.getD (plN (oneS c s) (ixL c q) c.length).toNat 0 else 0 := by
  have hc := pr_nonneg hm
  have hcp := pos_all (mayE_zero hm).1 (by omega)
  have hol := oneS_len h.1
  have key : ∀ j, j < (pr (oneS c s)).toNat → inR (oneS c s) (ixL (oneS c s) j) (oneS c s).length ∧ plN (oneS c s) (ixL (oneS c s) j) (oneS c s).length = j ∧ ixL c (plN c (ixL (oneS c s) j) c.length) = ixL (oneS c s) j ∧ 0 ≤ plN c (ixL (oneS c s) j) c.length ∧ plN c (ixL (oneS c s) j) c.length < pr c := by
    intro j hj
    have hsp : 0 < pr s := by rw [← pr_oneS c s]; omega
    have hop := oneS_pos (c := c) hs hsp
    have r1 : inR (oneS c s) (ixL (oneS c s) j) (oneS c s).length := fun i hi => ixL_rng hop i hi
    have r2 := inR_up h r1
    have hb := plN_bd (mayE_zero hm).1 (Nat.le_refl _) r2
    rw [List.take_length] at hb
    exact ⟨r1, plN_ixL hop (by omega), ix_plN hcp (by rw [ixL_len, hol]) r2, hb⟩
  obtain ⟨g1, g2⟩ := layG_at (s := s) (a := a) hc.1 q hq (pr (oneS c s)).toNat (fun j hj => (key j hj).2.2.2) (fun j j' h1 h2 he => by
    have e1 := (key j h1).2.2.1
    rw [he, (key j' h2).2.2.1] at e1
    have e2 := (key j h1).2.1
    rw [← e1, (key j' h2).2.1] at e2
    omega)
  by_cases hin : inR (oneS c s) (ixL c q) c.length
  · rw [if_pos hin]
    have hsp : 0 < pr s := by
      rw [← pr_oneS c s]
      have hp := plN_bd (s := oneS c s) (a := ixL c q) (k := (oneS c s).length) (fun i => by
        rw [oneS_at]; split
        · omega
        · exact (mayE_zero hs).1 _) (Nat.le_refl _) (by rw [hol]; exact hin)
      rw [List.take_length] at hp
      omega
    have hop := oneS_pos (c := c) hs hsp
    have hb := plN_bd (s := oneS c s) (a := ixL c q) (k := (oneS c s).length) (fun i => by
      rw [oneS_at]; split
      · omega
      · exact (mayE_zero hs).1 _) (Nat.le_refl _) (by rw [hol]; exact hin)
    rw [List.take_length, hol] at hb
    have e1 : ixL (oneS c s) (plN (oneS c s) (ixL c q) c.length) = ixL c q := by
      have := ix_plN (t := ixL c q) hop (by rw [ixL_len, hol]) (by rw [hol]; exact hin)
      rwa [hol] at this
    refine g1 (plN (oneS c s) (ixL c q) c.length).toNat (by omega) ?_
    rw [Int.toNat_of_nonneg hb.1, e1]
    exact plN_ixL hcp (by omega)
  · rw [if_neg hin]
    refine g2 fun j hj he => hin ?_
    have k1 := key j hj
    rw [← he, k1.2.2.1, ← hol]
    exact k1.1
theorem cov_self (c : List Int) : Cov c c := ⟨Nat.le_refl _, fun i hi => by rw [oneS_at, Nat.sub_self, if_neg (by omega), Nat.sub_zero]; omega⟩
theorem oneS_self (c : List Int) : oneS c c = c := by simp [oneS]
/-- An array of the common shape lies there as it is. -/
theorem layL_self {c a : List Int} (hm : mayE c = 0) (ha : (a.length : Int) = pr c) : layL c c a = a := by
  have hc := pr_nonneg hm
  apply List.ext_getElem (by rw [layL_len]; omega)
  intro q h1 h2
  have hq : q < (pr c).toNat := by rw [layL_len] at h1; exact h1
  have hp := pos_all (mayE_zero hm).1 (by omega)
  have e := layL_at (a := a) hm hm (cov_self c) q hq
  have hin : inR c (ixL c q) c.length := fun i hi => ixL_rng hp i hi
  rw [oneS_self, if_pos hin, plN_ixL hp (by omega), Int.toNat_natCast] at e
  simpa [List.getD, h1, h2] using e
/-- Which number Add answers. -/
def adC (c : List Int) (g : List (List Int × List Int)) (s : List Int) : List Int := if g.length = 0 then s else bthL c s
def adE (fr c : List Int) (g : List (List Int × List Int)) (s a : List Int) : Int := if (g.length : Int) = pr fr then 4 else if amE s a = 0 then if mayE (fr ++ adC c g s) = 0 then 0 else 17 else 1
/-- Join's rounds: the common shape and what is given, or the number. -/
def jnGo (fr : List Int) : List Int → List (List Int × List Int) → List (List Int × List Int) → Int × List Int × List (List Int × List Int)
  | c, g, [] => (0, c, g)
  | c, g, x :: r => if adE fr c g x.1 x.2 = 0 then jnGo fr (adC c g x.1) (g ++ [x]) r else (adE fr c g x.1 x.2, c, g)
/-- What Done tells. -/
def dnE (fr : List Int) (g : List (List Int × List Int)) : Int := if (g.length : Int) < pr fr then 11 else 0
def dnS (fr c : List Int) (g : List (List Int × List Int)) : List Int := if (g.length : Int) < pr fr then [] else fr ++ c
def dnA (fr c : List Int) (g : List (List Int × List Int)) : List Int := if (g.length : Int) < pr fr then [] else (g.map fun x => layL c x.1 x.2).flatten
end Go.Proofs.Ythackmkdicpdeaa
namespace Go.Proofs.Ythackmkdicpdeaa
open Go.RowKit Go.Lib
set_option linter.unusedVariables false
set_option linter.unusedSimpArgs false
theorem frL_oneS {c s : List Int} (h : s.length ≤ c.length) (i : Nat) : frL s c.length i = (oneS c s).getD i 0 := by rw [oneS_at]; rfl
theorem bthL_at {s t : List Int} {i : Nat} (h : i < max s.length t.length) : (bthL s t).getD i 0 = max (frL s (max s.length t.length) i) (frL t (max s.length t.length) i) := by simp [bthL, List.getD, h]
theorem cov_left (c s : List Int) : Cov (bthL c s) c := ⟨by rw [bthL_len]; omega, fun i hi => by
  rw [← frL_oneS (by rw [bthL_len]; omega)]
  rw [bthL_len] at hi ⊢
  rw [bthL_at hi]; omega⟩
theorem cov_right (c s : List Int) : Cov (bthL c s) s := ⟨by rw [bthL_len]; omega, fun i hi => by
  rw [← frL_oneS (by rw [bthL_len]; omega)]
  rw [bthL_len] at hi ⊢
  rw [bthL_at hi]; omega⟩
theorem cov_trans {a b c : List Int} (h1 : Cov a b) (h2 : Cov b c) : Cov a c := by
  obtain ⟨l1, g1⟩ := h1
  obtain ⟨l2, g2⟩ := h2
  refine ⟨by omega, fun i hi => ?_⟩
  have k1 := g1 i hi
  rw [oneS_at] at k1 ⊢
  by_cases c1 : i < a.length - b.length
  · rw [if_pos c1] at k1
    rw [if_pos (by omega)]
    exact k1
  · rw [if_neg c1] at k1
    have k2 := g2 (i - (a.length - b.length)) (by omega)
    rw [oneS_at] at k2
    by_cases c2 : i < a.length - c.length
    · rw [if_pos (by omega)] at k2
      rw [if_pos c2]; omega
    · rw [if_neg (by omega)] at k2
      rw [if_neg c2]
      rw [show i - (a.length - b.length) - (b.length - c.length) = i - (a.length - c.length) by omega] at k2
      omega
/-- Behind a joiner's rounds: every array that is given may be, and the common shape covers it. -/
structure Jok (fr c : List Int) (g : List (List Int × List Int)) : Prop where
  le : (g.length : Int) ≤ pr fr
  may : 0 < g.length → mayE (fr ++ c) = 0
  all : ∀ x, x ∈ g → amE x.1 x.2 = 0 ∧ Cov c x.1
theorem Jok.start {fr : List Int} (h : mayE fr = 0) : Jok fr [] [] := ⟨(pr_nonneg h).1, fun h => absurd h (by simp), fun x hx => by simp at hx⟩
theorem Jok.step {fr c : List Int} {g : List (List Int × List Int)} {x : List Int × List Int} (h : Jok fr c g) (he : adE fr c g x.1 x.2 = 0) : Jok fr (adC c g x.1) (g ++ [x]) := by
  unfold adE at he
  split at he
  · omega
  · rename_i h1
    split at he
    · rename_i h2
      split at he
      · rename_i h3
        have hle := h.le
        refine ⟨by rw [List.length_append, List.length_singleton]; omega, fun _ => h3, fun y hy => ?_⟩
        rcases List.mem_append.1 hy with hy | hy
        · refine ⟨(h.all y hy).1, ?_⟩
          have hg : ¬ g.length = 0 := by have := List.length_pos_of_mem hy; omega
          unfold adC
          rw [if_neg hg]
          exact cov_trans (cov_left _ _) (h.all y hy).2
        · obtain rfl : y = x := by simpa using hy
          refine ⟨h2, ?_⟩
          unfold adC
          split
          · exact cov_self _
          · exact cov_right _ _
      · omega
    · omega
theorem jnGo_ok {fr : List Int} : ∀ (l : List (List Int × List Int)) (c : List Int) (g : List (List Int × List Int)), Jok fr c g → Jok fr (jnGo fr c g l).2.1 (jnGo fr c g l).2.2
  | [], c, g, h => h
  | x :: r, c, g, h => by
    unfold jnGo
    by_cases he : adE fr c g x.1 x.2 = 0
    · rw [if_pos he]; exact jnGo_ok r _ _ (h.step he)
    · rw [if_neg he]; exact h
theorem jnGo_step {fr c : List Int} {g l : List (List Int × List Int)} {k : Nat} (hk : k < l.length) : jnGo fr c g (l.drop k) = if adE fr c g (l.getD k ([], [])).1 (l.getD k ([], [])).2 = 0 then jnGo fr (adC c g (l.getD k ([], [])).1) (g ++ [l.getD k ([], [])]) (l.drop (k + 1)) else (adE fr c g (l.getD k ([], [])).1 (l.getD k ([], [])).2, c, g) := by
  rw [List.drop_eq_getElem_cons hk]
  simp only [List.getD, List.getElem?_eq_getElem hk, Option.getD_some]
  rfl
/-- Arrays of one shape, as many as there is room for, are all taken. -/
theorem jnGo_same {fr inn : List Int} (hm : mayE (fr ++ inn) = 0) : ∀ (l : List (List Int × List Int)) (c : List Int) (g : List (List Int × List Int)), (∀ x, x ∈ l → x.1 = inn ∧ (x.2.length : Int) = pr inn) → (g.length : Int) + l.length ≤ pr fr → (0 < g.length → c = inn) →
    jnGo fr c g l = (0, if 0 < g.length + l.length then inn else c, g ++ l)
  | [], c, g, _, _, hc => by
    simp only [jnGo, List.append_nil, List.length_nil, Nat.add_zero]
    split
    · rename_i h; rw [hc h]
    · rfl
  | x :: r, c, g, hx, hl, hc => by
    obtain ⟨e1, e2⟩ := hx x (by simp)
    have hi := (mayE_app hm).2
    rw [List.length_cons] at hl
    have ec : adC c g x.1 = inn := by
      unfold adC
      split
      · exact e1
      · rw [hc (by omega), e1, bthL_self]
    have ee : adE fr c g x.1 x.2 = 0 := by
      unfold adE
      rw [if_neg (by omega), if_pos (by unfold amE; rw [e1, if_pos hi, if_pos e2.symm]), ec, if_pos hm]
    unfold jnGo
    rw [if_pos ee, ec, jnGo_same hm r inn (g ++ [x]) (fun y hy => hx y (List.mem_cons_of_mem _ hy)) (by simp only [List.length_append, List.length_singleton]; omega) (fun _ => rfl)]
    simp only [List.append_assoc, List.singleton_append, List.length_append, List.length_singleton, List.length_cons]
    rw [if_pos (by omega), if_pos (by omega)]
/-- The cells of an array, joined under their frame, are the array. -/
theorem cells_back {fr inn a : List Int} (hm : mayE (fr ++ inn) = 0) (ha : (a.length : Int) = pr (fr ++ inn)) (h0 : 0 < pr fr) :
    jnGo fr [] [] ((List.range (pr fr).toNat).map fun i => (inn, ckL (pr inn).toNat i a)) = (0, inn, (List.range (pr fr).toNat).map fun i => (inn, ckL (pr inn).toNat i a)) ∧
    (((List.range (pr fr).toNat).map fun i => (inn, ckL (pr inn).toNat i a)).map fun x => layL inn x.1 x.2).flatten = a := by
  obtain ⟨m1, m2⟩ := mayE_app hm
  have b1 := pr_nonneg m1
  have b2 := pr_nonneg m2
  have ha' : a.length = (pr fr).toNat * (pr inn).toNat := by
    rw [pr_app] at ha
    have e : ((pr fr).toNat : Int) * ((pr inn).toNat : Int) = pr fr * pr inn := by rw [Int.toNat_of_nonneg b1.1, Int.toNat_of_nonneg b2.1]
    have : (a.length : Int) = ((pr fr).toNat * (pr inn).toNat : Nat) := by rw [ha, ← e]; push_cast; rfl
    omega
  constructor
  · rw [jnGo_same hm _ [] [] (fun x hx => ?_) (by simp; omega) (by simp)]
    · simp only [List.length_nil, List.length_map, List.length_range, List.nil_append, Nat.zero_add]
      rw [if_pos (by omega)]
    · obtain ⟨i, hi, rfl⟩ := List.mem_map.1 hx
      refine ⟨rfl, ?_⟩
      rw [ckL_len ha' (List.mem_range.1 hi)]; omega
  · rw [List.map_map]
    rw [List.map_congr_left (g := fun i => ckL (pr inn).toNat i a) (fun i hi => ?_)]
    · exact ck_flat ha'
    · simp only [Function.comp]
      exact layL_self m2 (by rw [ckL_len ha' (List.mem_range.1 hi)]; omega)
/-- What is joined: as long as its shape says. -/
theorem joined_len {fr c : List Int} {g : List (List Int × List Int)} : ((g.map fun x => layL c x.1 x.2).flatten).length = g.length * (pr c).toNat := by
  induction g with
  | nil => simp
  | cons x r ih => rw [List.map_cons, List.flatten_cons, List.length_append, ih, layL_len, List.length_cons, Nat.succ_mul]; omega
theorem joined_at {c : List Int} {N : Nat} (hN : N = (pr c).toNat) : ∀ (g : List (List Int × List Int)) (i k : Nat), i < g.length → k < N → ((g.map fun x => layL c x.1 x.2).flatten).getD (i * N + k) 0 = (layL c (g.getD i ([], [])).1 (g.getD i ([], [])).2).getD k 0
  | [], i, k, hi, _ => absurd hi (by simp)
  | x :: r, 0, k, _, hk => by
    rw [List.map_cons, List.flatten_cons, Nat.zero_mul, Nat.zero_add, getD_app, if_pos (by rw [layL_len]; omega)]
    rfl
  | x :: r, i + 1, k, hi, hk => by
    rw [List.map_cons, List.flatten_cons, getD_app, layL_len, if_neg (by rw [Nat.succ_mul]; omega)]
    rw [show (i + 1) * N + k - (pr c).toNat = i * N + k by rw [Nat.succ_mul]; omega]
    rw [joined_at hN r i k (by simpa using hi) hk]
    rfl
/-- Cover of all shapes is the joiner's common one. -/
theorem cover_jn {fr : List Int} : ∀ (l : List (List Int × List Int)) (c : List Int) (g : List (List Int × List Int)), 0 < g.length → (jnGo fr c g l).1 = 0 → cvGo c (l.map (·.1)) = ((jnGo fr c g l).2.1, 0)
  | [], c, g, _, _ => rfl
  | x :: r, c, g, hg, h => by
    have hu : jnGo fr c g (x :: r) = if adE fr c g x.1 x.2 = 0 then jnGo fr (adC c g x.1) (g ++ [x]) r else (adE fr c g x.1 x.2, c, g) := rfl
    rw [hu] at h ⊢
    by_cases he : adE fr c g x.1 x.2 = 0
    · rw [if_pos he] at h ⊢
      have hc : adC c g x.1 = bthL c x.1 := by unfold adC; rw [if_neg (by omega)]
      have hh : mayE x.1 = 0 ∧ mayE (bthL c x.1) = 0 := by
        rw [← hc]
        unfold adE at he
        split at he
        · omega
        · split at he
          · rename_i h2
            split at he
            · rename_i h3
              refine ⟨?_, (mayE_app h3).2⟩
              unfold amE at h2
              split at h2
              · assumption
              · exact h2
            · omega
          · omega
      rw [← cover_jn r _ (g ++ [x]) (by simp) h, hc, List.map_cons]
      show (if mayE x.1 = 0 then if mayE (bthL c x.1) = 0 then cvGo (bthL c x.1) (r.map (·.1)) else ([], 17) else ([], mayE x.1)) = _
      rw [if_pos hh.1, if_pos hh.2]
    · rw [if_neg he] at h
      exact absurd h he
theorem cover_all {fr : List Int} {l : List (List Int × List Int)} (hl : 0 < l.length) (h : (jnGo fr [] [] l).1 = 0) : cvR (l.map (·.1)) = ((jnGo fr [] [] l).2.1, 0) := by
  cases l with
  | nil => simp at hl
  | cons x r =>
    have hu : jnGo fr [] [] (x :: r) = if adE fr [] [] x.1 x.2 = 0 then jnGo fr (adC [] [] x.1) ([] ++ [x]) r else (adE fr [] [] x.1 x.2, [], []) := rfl
    rw [hu] at h ⊢
    by_cases he : adE fr [] [] x.1 x.2 = 0
    · rw [if_pos he] at h ⊢
      have hc : adC [] [] x.1 = x.1 := rfl
      have hh : mayE x.1 = 0 := by
        unfold adE at he
        split at he
        · omega
        · split at he
          · rename_i h2
            unfold amE at h2
            split at h2
            · assumption
            · exact h2
          · omega
      rw [hc] at h ⊢
      rw [← cover_jn r _ _ (by simp) h, List.map_cons]
      show (if mayE x.1 = 0 then cvGo x.1 (r.map (·.1)) else ([], mayE x.1)) = _
      rw [if_pos hh]
    · rw [if_neg he] at h
      exact absurd h he
theorem plN_ones {s t : List Int} {d : Nat} (hz : ∀ i, i < d → t.getD i 0 = 0) (k : Nat) : plN (List.replicate d 1 ++ s) t (d + k) = plN s (t.drop d) k := by
  have h0 : ∀ j, j ≤ d → plN (List.replicate d 1 ++ s) t j = 0 := by
    intro j
    induction j with
    | zero => intro _; rfl
    | succ j ih => intro hj; simp only [plN]; rw [ih (by omega), hz j (by omega)]; simp
  induction k with
  | zero => rw [Nat.add_zero, h0 d (Nat.le_refl _)]; rfl
  | succ k ih =>
    rw [← Nat.add_assoc]
    simp only [plN]
    rw [ih, getD_app, List.length_replicate, if_neg (by omega), Nat.add_sub_cancel_left]
    simp [List.getD]
/-- What stands at a place of the common shape, asked as Place tells it. -/
theorem lay_place {c s a : List Int} (hm : mayE c = 0) (hs : mayE s = 0) (h : Cov c s) (q : Nat) (hq : q < (pr c).toNat) (hin : inR (oneS c s) (ixL c q) c.length) :
    plE s ((ixL c q).drop (c.length - s.length)) = 0 ∧ plV s ((ixL c q).drop (c.length - s.length)) = plN (oneS c s) (ixL c q) c.length := by
  have hl := h.1
  have hz : ∀ i, i < c.length - s.length → (ixL c q).getD i 0 = 0 := fun i hi => by
    have := hin i (by omega)
    rw [oneS_at, if_pos hi] at this
    omega
  have hd : ((ixL c q).drop (c.length - s.length)).length = s.length := by rw [List.length_drop, ixL_len]; omega
  have hr : inR s ((ixL c q).drop (c.length - s.length)) s.length := fun i hi => by
    have := hin (c.length - s.length + i) (by omega)
    rw [oneS_at, if_neg (by omega), Nat.add_sub_cancel_left] at this
    simpa [List.getD] using this
  have e : plN (oneS c s) (ixL c q) c.length = plN s ((ixL c q).drop (c.length - s.length)) s.length := by
    have := plN_ones (s := s) (t := ixL c q) hz s.length
    rw [show c.length - s.length + s.length = c.length by omega] at this
    exact this
  exact ⟨by rw [plE, if_pos hs, if_pos hd, if_pos hr], by rw [plV, if_pos ⟨hs, hd, hr⟩, e]⟩
end Go.Proofs.Ythackmkdicpdeaa

/- What a joiner is given, and what it tells: no program in sight. -/
import Derived.Test.YtfmabpdkjhlihaaCellPlain
namespace Go.Proofs.Ytfmabpdkjhlihaa
open Go.RowKit Go.Lib
set_option linter.unusedVariables false
set_option linter.unusedSimpArgs false
theorem frL_oneS {c s : List Int} (h : s.length ≤ c.length) (i : Nat) : frL s c.length i = (oneS c s).getD i 0 := by rw [oneS_at]; rfl
theorem bthL_at {s t : List Int} {i : Nat} (h : i < max s.length t.length) : (bthL s t).getD i 0 = max (frL s (max s.length t.length) i) (frL t (max s.length t.length) i) := by simp [bthL, List.getD, h]
theorem cov_left (c s : List Int) : Cov (bthL c s) c := ⟨by rw [bthL_len]; omega, fun i hi => by
  rw [← frL_oneS (by rw [bthL_len]; omega)]
  rw [bthL_len] at hi ⊢
  rw [bthL_at hi]; omega⟩
theorem cov_right (c s : List Int) : Cov (bthL c s) s := ⟨by rw [bthL_len]; omega, fun i hi => by
  rw [← frL_oneS (by rw [bthL_len]; omega)]
  rw [bthL_len] at hi ⊢
  rw [bthL_at hi]; omega⟩
theorem cov_trans {a b c : List Int} (h1 : Cov a b) (h2 : Cov b c) : Cov a c := by
  obtain ⟨l1, g1⟩ := h1
  obtain ⟨l2, g2⟩ := h2
  refine ⟨by omega, fun i hi => ?_⟩
  have k1 := g1 i hi
  rw [oneS_at] at k1 ⊢
  by_cases c1 : i < a.length - b.length
  · rw [if_pos c1] at k1
    rw [if_pos (by omega)]
    exact k1
  · rw [if_neg c1] at k1
    have k2 := g2 (i - (a.length - b.length)) (by omega)
    rw [oneS_at] at k2
    by_cases c2 : i < a.length - c.length
    · rw [if_pos (by omega)] at k2
      rw [if_pos c2]; omega
    · rw [if_neg (by omega)] at k2
      rw [if_neg c2]
      rw [show i - (a.length - b.length) - (b.length - c.length) = i - (a.length - c.length) by omega] at k2
      omega
/-- Behind a joiner's rounds: every array that is given may be, and the common shape covers it. -/
structure Jok (fr c : List Int) (g : List (List Int × List Int)) : Prop where
  le : (g.length : Int) ≤ pr fr
  may : 0 < g.length → mayE (fr ++ c) = 0
  all : ∀ x, x ∈ g → amE x.1 x.2 = 0 ∧ Cov c x.1
theorem Jok.start {fr : List Int} (h : mayE fr = 0) : Jok fr [] [] := ⟨(pr_nonneg h).1, fun h => absurd h (by simp), fun x hx => by simp at hx⟩
theorem Jok.step {fr c : List Int} {g : List (List Int × List Int)} {x : List Int × List Int} (h : Jok fr c g) (he : adE fr c g x.1 x.2 = 0) : Jok fr (adC c g x.1) (g ++ [x]) := by
  unfold adE at he
  split at he
  · omega
  · rename_i h1
    split at he
    · rename_i h2
      split at he
      · rename_i h3
        have hle := h.le
        refine ⟨by rw [List.length_append, List.length_singleton]; omega, fun _ => h3, fun y hy => ?_⟩
        rcases List.mem_append.1 hy with hy | hy
        · refine ⟨(h.all y hy).1, ?_⟩
          have hg : ¬ g.length = 0 := by have := List.length_pos_of_mem hy; omega
          unfold adC
          rw [if_neg hg]
          exact cov_trans (cov_left _ _) (h.all y hy).2
        · obtain rfl : y = x := by simpa using hy
          refine ⟨h2, ?_⟩
          unfold adC
          split
          · exact cov_self _
          · exact cov_right _ _
      · omega
    · omega
theorem jnGo_ok {fr : List Int} : ∀ (l : List (List Int × List Int)) (c : List Int) (g : List (List Int × List Int)), Jok fr c g → Jok fr (jnGo fr c g l).2.1 (jnGo fr c g l).2.2
  | [], c, g, h => h
  | x :: r, c, g, h => by
    unfold jnGo
    by_cases he : adE fr c g x.1 x.2 = 0
    · rw [if_pos he]; exact jnGo_ok r _ _ (h.step he)
    · rw [if_neg he]; exact h
theorem jnGo_step {fr c : List Int} {g l : List (List Int × List Int)} {k : Nat} (hk : k < l.length) : jnGo fr c g (l.drop k) = if adE fr c g (l.getD k ([], [])).1 (l.getD k ([], [])).2 = 0 then jnGo fr (adC c g (l.getD k ([], [])).1) (g ++ [l.getD k ([], [])]) (l.drop (k + 1)) else (adE fr c g (l.getD k ([], [])).1 (l.getD k ([], [])).2, c, g) := by
  rw [List.drop_eq_getElem_cons hk]
  simp only [List.getD, List.getElem?_eq_getElem hk, Option.getD_some]
  rfl
/-- Arrays of one shape, as many as there is room for, are all taken. -/
theorem jnGo_same {fr inn : List Int} (hm : mayE (fr ++ inn) = 0) : ∀ (l : List (List Int × List Int)) (c : List Int) (g : List (List Int × List Int)), (∀ x, x ∈ l → x.1 = inn ∧ (x.2.length : Int) = pr inn) → (g.length : Int) + l.length ≤ pr fr → (0 < g.length → c = inn) →
    jnGo fr c g l = (0, if 0 < g.length + l.length then inn else c, g ++ l)
  | [], c, g, _, _, hc => by
    simp only [jnGo, List.append_nil, List.length_nil, Nat.add_zero]
    split
    · rename_i h; rw [hc h]
    · rfl
  | x :: r, c, g, hx, hl, hc => by
    obtain ⟨e1, e2⟩ := hx x (by simp)
    have hi := (mayE_app hm).2
    rw [List.length_cons] at hl
    have ec : adC c g x.1 = inn := by
      unfold adC
      split
      · exact e1
      · rw [hc (by omega), e1, bthL_self]
    have ee : adE fr c g x.1 x.2 = 0 := by
      unfold adE
      rw [if_neg (by omega), if_pos (by unfold amE; rw [e1, if_pos hi, if_pos e2.symm]), ec, if_pos hm]
    unfold jnGo
    rw [if_pos ee, ec, jnGo_same hm r inn (g ++ [x]) (fun y hy => hx y (List.mem_cons_of_mem _ hy)) (by simp only [List.length_append, List.length_singleton]; omega) (fun _ => rfl)]
    simp only [List.append_assoc, List.singleton_append, List.length_append, List.length_singleton, List.length_cons]
    rw [if_pos (by omega), if_pos (by omega)]
/-- The cells of an array, joined under their frame, are the array. -/
theorem cells_back {fr inn a : List Int} (hm : mayE (fr ++ inn) = 0) (ha : (a.length : Int) = pr (fr ++ inn)) (h0 : 0 < pr fr) :
    jnGo fr [] [] ((List.range (pr fr).toNat).map fun i => (inn, ckL (pr inn).toNat i a)) = (0, inn, (List.range (pr fr).toNat).map fun i => (inn, ckL (pr inn).toNat i a)) ∧
    (((List.range (pr fr).toNat).map fun i => (inn, ckL (pr inn).toNat i a)).map fun x => layL inn x.1 x.2).flatten = a := by
  obtain ⟨m1, m2⟩ := mayE_app hm
  have b1 := pr_nonneg m1
  have b2 := pr_nonneg m2
  have ha' : a.length = (pr fr).toNat * (pr inn).toNat := by
    rw [pr_app] at ha
    have e : ((pr fr).toNat : Int) * ((pr inn).toNat : Int) = pr fr * pr inn := by rw [Int.toNat_of_nonneg b1.1, Int.toNat_of_nonneg b2.1]
    have : (a.length : Int) = ((pr fr).toNat * (pr inn).toNat : Nat) := by rw [ha, ← e]; push_cast; rfl
    omega
  constructor
  · rw [jnGo_same hm _ [] [] (fun x hx => ?_) (by simp; omega) (by simp)]
    · simp only [List.length_nil, List.length_map, List.length_range, List.nil_append, Nat.zero_add]
      rw [if_pos (by omega)]
    · obtain ⟨i, hi, rfl⟩ := List.mem_map.1 hx
      refine ⟨rfl, ?_⟩
      rw [ckL_len ha' (List.mem_range.1 hi)]; omega
  · rw [List.map_map]
    rw [List.map_congr_left (g := fun i => ckL (pr inn).toNat i a) (fun i hi => ?_)]
    · exact ck_flat ha'
    · simp only [Function.comp]
      exact layL_self m2 (by rw [ckL_len ha' (List.mem_range.1 hi)]; omega)
/-- What is joined: as long as its shape says. -/
theorem joined_len {fr c : List Int} {g : List (List Int × List Int)} : ((g.map fun x => layL c x.1 x.2).flatten).length = g.length * (pr c).toNat := by
  induction g with
  | nil => simp
  | cons x r ih => rw [List.map_cons, List.flatten_cons, List.length_append, ih, layL_len, List.length_cons, Nat.succ_mul]; omega
theorem joined_at {c : List Int} {N : Nat} (hN : N = (pr c).toNat) : ∀ (g : List (List Int × List Int)) (i k : Nat), i < g.length → k < N → ((g.map fun x => layL c x.1 x.2).flatten).getD (i * N + k) 0 = (layL c (g.getD i ([], [])).1 (g.getD i ([], [])).2).getD k 0
  | [], i, k, hi, _ => absurd hi (by simp)
  | x :: r, 0, k, _, hk => by
    rw [List.map_cons, List.flatten_cons, Nat.zero_mul, Nat.zero_add, getD_app, if_pos (by rw [layL_len]; omega)]
    rfl
  | x :: r, i + 1, k, hi, hk => by
    rw [List.map_cons, List.flatten_cons, getD_app, layL_len, if_neg (by rw [Nat.succ_mul]; omega)]
    rw [show (i + 1) * N + k - (pr c).toNat = i * N + k by rw [Nat.succ_mul]; omega]
    rw [joined_at hN r i k (by simpa using hi) hk]
    rfl
/-- Cover of all shapes is the joiner's common one. -/
theorem cover_jn {fr : List Int} : ∀ (l : List (List Int × List Int)) (c : List Int) (g : List (List Int × List Int)), 0 < g.length → (jnGo fr c g l).1 = 0 → cvGo c (l.map (·.1)) = ((jnGo fr c g l).2.1, 0)
  | [], c, g, _, _ => rfl
  | x :: r, c, g, hg, h => by
    have hu : jnGo fr c g (x :: r) = if adE fr c g x.1 x.2 = 0 then jnGo fr (adC c g x.1) (g ++ [x]) r else (adE fr c g x.1 x.2, c, g) := rfl
    rw [hu] at h ⊢
    by_cases he : adE fr c g x.1 x.2 = 0
    · rw [if_pos he] at h ⊢
      have hc : adC c g x.1 = bthL c x.1 := by unfold adC; rw [if_neg (by omega)]
      have hh : mayE x.1 = 0 ∧ mayE (bthL c x.1) = 0 := by
        rw [← hc]
        unfold adE at he
        split at he
        · omega
        · split at he
          · rename_i h2
            split at he
            · rename_i h3
              refine ⟨?_, (mayE_app h3).2⟩
              unfold amE at h2
              split at h2
              · assumption
              · exact h2
            · omega
          · omega
      rw [← cover_jn r _ (g ++ [x]) (by simp) h, hc, List.map_cons]
      show (if mayE x.1 = 0 then if mayE (bthL c x.1) = 0 then cvGo (bthL c x.1) (r.map (·.1)) else ([], 17) else ([], mayE x.1)) = _
      rw [if_pos hh.1, if_pos hh.2]
    · rw [if_neg he] at h
      exact absurd h he
theorem cover_all {fr : List Int} {l : List (List Int × List Int)} (hl : 0 < l.length) (h : (jnGo fr [] [] l).1 = 0) : cvR (l.map (·.1)) = ((jnGo fr [] [] l).2.1, 0) := by
  cases l with
  | nil => simp at hl
  | cons x r =>
    have hu : jnGo fr [] [] (x :: r) = if adE fr [] [] x.1 x.2 = 0 then jnGo fr (adC [] [] x.1) ([] ++ [x]) r else (adE fr [] [] x.1 x.2, [], []) := rfl
    rw [hu] at h ⊢
    by_cases he : adE fr [] [] x.1 x.2 = 0
    · rw [if_pos he] at h ⊢
      have hc : adC [] [] x.1 = x.1 := rfl
      have hh : mayE x.1 = 0 := by
        unfold adE at he
        split at he
        · omega
        · split at he
          · rename_i h2
            unfold amE at h2
            split at h2
            · assumption
            · exact h2
          · omega
      rw [hc] at h ⊢
      rw [← cover_jn r _ _ (by simp) h, List.map_cons]
      show (if mayE x.1 = 0 then cvGo x.1 (r.map (·.1)) else ([], mayE x.1)) = _
      rw [if_pos hh]
    · rw [if_neg he] at h
      exact absurd h he
theorem plN_ones {s t : List Int} {d : Nat} (hz : ∀ i, i < d → t.getD i 0 = 0) (k : Nat) : plN (List.replicate d 1 ++ s) t (d + k) = plN s (t.drop d) k := by
  have h0 : ∀ j, j ≤ d → plN (List.replicate d 1 ++ s) t j = 0 := by
    intro j
    induction j with
    | zero => intro _; rfl
    | succ j ih => intro hj; simp only [plN]; rw [ih (by omega), hz j (by omega)]; simp
  induction k with
  | zero => rw [Nat.add_zero, h0 d (Nat.le_refl _)]; rfl
  | succ k ih =>
    rw [← Nat.add_assoc]
    simp only [plN]
    rw [ih, getD_app, List.length_replicate, if_neg (by omega), Nat.add_sub_cancel_left]
    simp [List.getD]
/-- What stands at a place of the common shape, asked as Place tells it. -/
theorem lay_place {c s a : List Int} (hm : mayE c = 0) (hs : mayE s = 0) (h : Cov c s) (q : Nat) (hq : q < (pr c).toNat) (hin : inR (oneS c s) (ixL c q) c.length) :
    plE s ((ixL c q).drop (c.length - s.length)) = 0 ∧ plV s ((ixL c q).drop (c.length - s.length)) = plN (oneS c s) (ixL c q) c.length := by
  have hl := h.1
  have hz : ∀ i, i < c.length - s.length → (ixL c q).getD i 0 = 0 := fun i hi => by
    have := hin i (by omega)
    rw [oneS_at, if_pos hi] at this
    omega
  have hd : ((ixL c q).drop (c.length - s.length)).length = s.length := by rw [List.length_drop, ixL_len]; omega
  have hr : inR s ((ixL c q).drop (c.length - s.length)) s.length := fun i hi => by
    have := hin (c.length - s.length + i) (by omega)
    rw [oneS_at, if_neg (by omega), Nat.add_sub_cancel_left] at this
    simpa [List.getD] using this
  have e : plN (oneS c s) (ixL c q) c.length = plN s ((ixL c q).drop (c.length - s.length)) s.length := by
    have := plN_ones (s := s) (t := ixL c q) hz s.length
    rw [show c.length - s.length + s.length = c.length by omega] at this
    exact this
  exact ⟨by rw [plE, if_pos hs, if_pos hd, if_pos hr], by rw [plV, if_pos ⟨hs, hd, hr⟩, e]⟩
end Go.Proofs.Ytfmabpdkjhlihaa

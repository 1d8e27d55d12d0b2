/- Plain laws of copying. -/
import Derived.Test.YtoippfoeghjdoaaDigLaws
namespace Go.Proofs.Ytoippfoeghjdoaa
open Go.RowKit Go.Lib
set_option linter.unusedVariables false
set_option linter.unusedSimpArgs false
theorem amE_pr {s a : List Int} (h : amE s a = 0) : (a.length : Int) = pr s := (amE_zero h).2.symm
/-- Copying of places is what where tells. -/
theorem wh_cp {n : Nat} {x I : List Int} (hl : x.length = n) (hI : I.length = n) (hIi : ∀ i, i < n → I.getD i 0 = i) (hn : x.any (fun k => decide (k < 0)) = false) : ∀ i, i ≤ n →
    (cpU [(n : Int)] x i ≤ 4096 ∧ whGo 0 [] x = whGo i (cpR [(n : Int)] x [(n : Int)] I i) (x.drop i)) ∨ (4096 < cpU [(n : Int)] x i ∧ whGo 0 [] x = none)
  | 0, _ => .inl ⟨by simp [cpU], rfl⟩
  | i + 1, hi => by
    have hk : ∀ j, j < n → cpK [(n : Int)] I j = [(j : Int)] := fun j hj => by
      unfold cpK ckL
      have h1 : pr ([(n : Int)] : List Int).tail = 1 := rfl
      rw [h1, if_neg (by simp)]
      show (I.drop (j * 1)).take 1 = _
      rw [Nat.mul_one, List.drop_eq_getElem_cons (by omega)]
      have := hIi j hj
      rw [List.getD_eq_getElem?_getD, List.getElem?_eq_getElem (by omega), Option.getD_some] at this
      rw [this]
      rfl
    have hN : cpN x [(n : Int)] = n := by unfold cpN; rw [if_neg (by simp), List.getD_cons_zero, Int.toNat_natCast]
    have hp := pk_nonneg (s := [(n : Int)]) hn i
    have hpe : pkV [(n : Int)] x i = x.getD i 0 := by unfold pkV; rw [if_neg (by simp)]
    have hu := (cpU_mono (s := [(n : Int)]) hn i 0).1
    have hlen : (cpR [(n : Int)] x [(n : Int)] I i).length = (cpU [(n : Int)] x i).toNat := by
      rw [cpR_len (s := [(n : Int)]) (t := [(n : Int)]) hn (e := 1) (fun j hj => by rw [hk j (by omega)]; rfl) i (by omega), Nat.mul_one]
    rcases wh_cp hl hI hIi hn i (by omega) with ⟨h1, h2⟩ | ⟨h1, h2⟩
    · rw [whGo_step (by omega), hlen] at h2
      rw [cpU, hpe]
      rw [hpe] at hp
      by_cases hc : 4096 < cpU [(n : Int)] x i + x.getD i 0
      · rw [if_pos (by omega)] at h2
        exact .inr ⟨hc, h2⟩
      · rw [if_neg (by omega)] at h2
        refine .inl ⟨by omega, ?_⟩
        rw [h2, cpR, hpe, hk i (by omega)]
        congr 2
        clear h2
        induction (x.getD i 0).toNat with
        | zero => rfl
        | succ m ih => rw [List.replicate_succ, List.replicate_succ, List.flatten_cons, ← ih]; rfl
    · right
      rw [cpU]
      exact ⟨by omega, h2⟩
theorem where_copies {n : Nat} {x I : List Int} (hl : x.length = n) (hn4 : n ≤ 4096) (hI : I.length = n) (hIi : ∀ i, i < n → I.getD i 0 = i) :
    ∃ S A E, dMon 43 [(n : Int)] x = (S, A, E) ∧ dDya 22 [(n : Int)] x [(n : Int)] I = (S, A, E) := by
  have e1 : dMon 43 [(n : Int)] x = (whS x, whA x, whE x) := by
    unfold dMon
    rw [if_neg (by rw [amE_list hl.symm hn4]; decide), if_neg (by decide), if_neg (by simp), if_neg (by decide), if_pos rfl]
  have e2 : dDya 22 [(n : Int)] x [(n : Int)] I = (cpS [(n : Int)] x [(n : Int)], cpA [(n : Int)] x [(n : Int)] I, cpE [(n : Int)] x [(n : Int)]) := by
    unfold dDya
    rw [if_neg (by rw [amE_list hl.symm hn4, amE_list hI.symm hn4]; decide), if_neg (by decide), if_neg (by simp), if_pos rfl]
  refine ⟨_, _, _, e1, ?_⟩
  rw [e2]
  have hw : ¬ cpW [(n : Int)] x [(n : Int)] := fun h => h.2.2 (by rw [List.getD_cons_zero, hl])
  have hN : cpN x [(n : Int)] = n := by unfold cpN; rw [if_neg (by simp), List.getD_cons_zero, Int.toNat_natCast]
  cases hn : x.any (fun k => decide (k < 0))
  · have hmain := wh_cp hl hI hIi hn n (Nat.le_refl _)
    have hu := (cpU_mono (s := [(n : Int)]) hn n 0).1
    have hT : cpT [(n : Int)] x [(n : Int)] = if cpU [(n : Int)] x n ≤ 4096 then cpU [(n : Int)] x n else 4097 := by unfold cpT; rw [hN]
    rcases hmain with ⟨h1, h2⟩ | ⟨h1, h2⟩
    · rw [if_pos h1] at hT
      have hlen : (cpR [(n : Int)] x [(n : Int)] I n).length = (cpU [(n : Int)] x n).toNat := by
        rw [cpR_len (s := [(n : Int)]) (t := [(n : Int)]) hn (e := 1) (fun j hj => by
          unfold cpK
          have h1 : pr ([(n : Int)] : List Int).tail = 1 := rfl
          rw [h1, if_neg (by simp)]
          show ((I.drop (j * 1)).take 1).length = 1
          rw [List.length_take, List.length_drop]; omega) n (by omega), Nat.mul_one]
      rw [List.drop_of_length_le (by omega)] at h2
      have h3 : whGo 0 [] x = some (cpR [(n : Int)] x [(n : Int)] I n) := h2
      have hm : mayE (cpT [(n : Int)] x [(n : Int)] :: ([(n : Int)] : List Int).tail) = 0 := by rw [hT]; exact mayE_one ⟨hu, h1⟩
      have hE : cpE [(n : Int)] x [(n : Int)] = 0 := by unfold cpE; rw [if_neg hw, hn]; simp only [Bool.false_eq_true, if_false]; rw [if_pos hm]
      unfold cpS cpA whS whA whE
      rw [hE, hn, h3, hT, hN]
      simp only [Bool.false_eq_true, if_false, if_true, hlen, List.tail_cons]
      rw [Int.toNat_of_nonneg hu]
    · rw [if_neg (by omega)] at hT
      have hm : ¬ mayE (cpT [(n : Int)] x [(n : Int)] :: ([(n : Int)] : List Int).tail) = 0 := by rw [hT]; show ¬ mayE [4097] = 0; rw [mayE_one_big (by omega)]; decide
      have hE : cpE [(n : Int)] x [(n : Int)] = 17 := by unfold cpE; rw [if_neg hw, hn]; simp only [Bool.false_eq_true, if_false]; rw [if_neg hm]
      unfold cpS cpA whS whA whE
      rw [hE, hn, h2]
      simp
  · have hE : cpE [(n : Int)] x [(n : Int)] = 10 := by unfold cpE; rw [if_neg hw, hn]; rfl
    unfold cpS cpA whS whA whE
    rw [hE, hn]
    simp
/-- Copied once each, an array stays as it is. -/
theorem cp_ones {s a t b : List Int} (ht : 0 < t.length) (hm : amE t b = 0) (h1 : ∀ i, i < (t.getD 0 0).toNat → pkV s a i = 1) (hw : ¬ cpW s a t) (hn : a.any (fun k => decide (k < 0)) = false) : cpS s a t = t ∧ cpA s a t b = b ∧ cpE s a t = 0 := by
  obtain ⟨hm1, hm2⟩ := amE_zero hm
  obtain ⟨x, r, e⟩ := List.exists_cons_of_ne_nil (l := t) (fun h => by rw [h] at ht; simp at ht)
  have hx : t.getD 0 0 = x := by rw [e]; rfl
  have hr : t.tail = r := by rw [e]; rfl
  have hx0 := (mayE_zero hm1).1 0
  rw [hx] at h1 hx0
  have hN : cpN a t = x.toNat := by unfold cpN; rw [if_neg (by omega), hx]
  have hU : ∀ i, i ≤ x.toNat → cpU s a i = i := fun i => by
    induction i with
    | zero => intro _; rfl
    | succ i ih => intro hi; rw [cpU, ih (by omega), h1 i (by omega)]; push_cast; rfl
  have hx4 : x ≤ 4096 := by
    have q1 := (pm_up t 0).2.2
    have q2 := pm_all t 1
    have q3 := (mayE_zero hm1).2.2
    rw [hx, Nat.zero_add] at q1
    omega
  have hT : cpT s a t = x := by
    unfold cpT
    rw [hN, hU _ (Nat.le_refl _), if_pos (by omega)]
    omega
  have hcons : cpT s a t :: t.tail = t := by rw [hT, hr, e]
  have hE : cpE s a t = 0 := by
    unfold cpE
    rw [if_neg hw, hn, hcons]
    simp only [Bool.false_eq_true, if_false]
    rw [if_pos hm1]
  obtain ⟨ee, hee⟩ : ∃ ee : Nat, ee = (pr t.tail).toNat := ⟨_, rfl⟩
  have hR : ∀ i, i ≤ x.toNat → cpR s a t b i = b.take (i * ee) := fun i => by
    induction i with
    | zero => intro _; simp [cpR]
    | succ i ih =>
      intro hi
      have hk : cpK t b i = (b.drop (i * ee)).take ee := by unfold cpK ckL; rw [if_neg (by omega), hee]
      rw [cpR, ih (by omega), h1 i (by omega), hk, Nat.succ_mul, List.take_add]
      simp
  have hpr : pr t.tail * x = pr t := by rw [hr, e, pr_cons, Int.mul_comm]
  have hrn : 0 ≤ pr t.tail := by
    have hmr : mayE t.tail = 0 := by
      have h := mayE_app (s := t.take 1) (t := t.drop 1) (by rw [List.take_append_drop]; exact hm1)
      rw [← List.drop_one]; exact h.2
    exact (pr_nonneg hmr).1
  refine ⟨?_, ?_, hE⟩
  · unfold cpS; rw [hE, if_pos rfl, hcons]
  · unfold cpA
    rw [hE, if_pos rfl, hN, hR _ (Nat.le_refl _)]
    refine List.take_of_length_le ?_
    have h3 : ((x.toNat * ee : Nat) : Int) = (b.length : Int) := by
      push_cast
      rw [hee, Int.toNat_of_nonneg hx0, Int.toNat_of_nonneg hrn, Int.mul_comm, hpr, hm2]
    omega
theorem dya_cp {s a t b : List Int} (h1 : amE s a = 0) (h2 : amE t b = 0) (h3 : s.length ≤ 1) : dDya 22 s a t b = (cpS s a t, cpA s a t b, cpE s a t) := by
  unfold dDya
  rw [if_neg (by rw [h1, h2]; decide), if_neg (by decide), if_neg (by simp; omega), if_pos rfl]
theorem dya_one {t b : List Int} (ht : 0 < t.length) (hm : amE t b = 0) : dDya 22 [] [1] t b = (t, b, 0) := by
  rw [dya_cp (amE_scal 1) hm (by simp)]
  obtain ⟨h1, h2, h3⟩ := cp_ones (s := []) (a := [1]) ht hm (fun i _ => rfl) (fun h => absurd h.1 (by simp)) (by decide)
  rw [h1, h2, h3]
theorem dya_ones {t b : List Int} {k : Nat} (ht : 0 < t.length) (hm : amE t b = 0) (hk : t.getD 0 0 = k) : dDya 22 [(k : Int)] (List.replicate k 1) t b = (t, b, 0) := by
  have hk4 : k ≤ 4096 := by
    have q1 := (pm_up t 0).2.2
    have q2 := pm_all t 1
    have q3 := (mayE_zero (amE_zero hm).1).2.2
    rw [hk, Nat.zero_add] at q1
    omega
  rw [dya_cp (amE_list (by simp) hk4) hm (by simp)]
  obtain ⟨h1, h2, h3⟩ := cp_ones (s := [(k : Int)]) (a := List.replicate k 1) ht hm (fun i hi => by
    rw [hk, Int.toNat_natCast] at hi
    unfold pkV
    rw [if_neg (by simp)]
    simp [List.getD_eq_getElem?_getD, List.getElem?_replicate, hi]) (fun h => h.2.2 (by rw [hk]; simp)) (by simp)
  rw [h1, h2, h3]
/-- What copying by numbers tells, if it does not fail. -/
theorem cp_tells {x t b : List Int} {n : Nat} (hl : x.length = n) (hn : n ≤ 4096) (ht : 0 < t.length) (hm : amE t b = 0) :
    ∃ S A E, dDya 22 [(n : Int)] x t b = (S, A, E) ∧ (E ≠ 0 → S = [] ∧ A = []) ∧ (E = 0 → (n : Int) = t.getD 0 0 ∧ S.length = t.length ∧ (∀ i, 0 ≤ x.getD i 0 ∧ x.getD i 0 ≤ 4096) ∧ S.getD 0 0 = cpU [(n : Int)] x n ∧ (∀ i, i ≤ n → 0 ≤ cpU [(n : Int)] x i ∧ cpU [(n : Int)] x i ≤ 4096)) := by
  refine ⟨_, _, _, dya_cp (amE_list hl.symm hn) hm (by simp), fun h => ?_, fun h => ?_⟩
  · unfold cpS cpA; rw [if_neg h, if_neg h]; exact ⟨rfl, rfl⟩
  · have hw : ¬ cpW [(n : Int)] x t := fun hw => by unfold cpE at h; rw [if_pos hw] at h; omega
    have hnt : (n : Int) = t.getD 0 0 := by
      rcases Decidable.em ((n : Int) = t.getD 0 0) with q | q
      · exact q
      · exact absurd ⟨rfl, ht, by rw [hl]; exact q⟩ hw
    have hneg : x.any (fun k => decide (k < 0)) = false := by
      cases hq : x.any (fun k => decide (k < 0))
      · rfl
      · unfold cpE at h; rw [if_neg hw, hq] at h; simp at h
    have hmay : mayE (cpT [(n : Int)] x t :: t.tail) = 0 := by
      rcases Decidable.em (mayE (cpT [(n : Int)] x t :: t.tail) = 0) with q | q
      · exact q
      · unfold cpE at h; rw [if_neg hw, hneg] at h; simp only [Bool.false_eq_true, if_false] at h; rw [if_neg q] at h; omega
    have hN : cpN x t = n := by unfold cpN; rw [if_neg (by omega), ← hnt, Int.toNat_natCast]
    have hT4 : cpT [(n : Int)] x t ≤ 4096 := by
      have q1 := (pm_up (cpT [(n : Int)] x t :: t.tail) 0).2.2
      have q2 := pm_all (cpT [(n : Int)] x t :: t.tail) 1
      have q3 := (mayE_zero hmay).2.2
      rw [List.getD_cons_zero, Nat.zero_add] at q1
      omega
    have hT : cpT [(n : Int)] x t = cpU [(n : Int)] x n := by
      unfold cpT at hT4 ⊢
      rw [hN] at hT4 ⊢
      by_cases q : cpU [(n : Int)] x n ≤ 4096
      · rw [if_pos q]
      · rw [if_neg q] at hT4; omega
    have hb : ∀ i, i ≤ n → 0 ≤ cpU [(n : Int)] x i ∧ cpU [(n : Int)] x i ≤ 4096 := fun i hi => by
      obtain ⟨q1, q2⟩ := cpU_mono (s := [(n : Int)]) hneg i (n - i)
      rw [show i + (n - i) = n by omega] at q2
      omega
    refine ⟨hnt, ?_, fun i => ?_, ?_, hb⟩
    · unfold cpS; rw [if_pos h, List.length_cons, List.length_tail]; omega
    · have q := pk_nonneg (s := [(n : Int)]) hneg i
      have e : pkV [(n : Int)] x i = x.getD i 0 := by unfold pkV; rw [if_neg (by simp)]
      rw [e] at q
      refine ⟨q, ?_⟩
      by_cases hi : i < n
      · have h1 := hb (i + 1) (by omega)
        have h2 := hb i (by omega)
        rw [cpU, e] at h1
        omega
      · rw [List.getD_eq_getElem?_getD, List.getElem?_eq_none (by omega)]; simp
    · unfold cpS; rw [if_pos h, List.getD_cons_zero, hT]
theorem cpU_step {n : Nat} (x : List Int) (i : Nat) : cpU [(n : Int)] x (i + 1) = cpU [(n : Int)] x i + x.getD i 0 := by
  rw [cpU]; congr 1
end Go.Proofs.Ytoippfoeghjdoaa

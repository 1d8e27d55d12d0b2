/- Plain laws behind the statements of layer 4: no program in sight. -/
import Derived.Test.YtfmabpdkjhlihaaCellBegun3
namespace Go.Proofs.Ytfmabpdkjhlihaa
open Go.RowKit Go.Lib
set_option linter.unusedVariables false
set_option linter.unusedSimpArgs false
theorem amE_bad {s a : List Int} (h : amE s a ≠ 0) : mayE s ≠ 0 ∨ szE s ≠ a.length := by
  unfold amE at h
  unfold szE
  by_cases h1 : mayE s = 0
  · right
    rw [if_pos h1] at h ⊢
    intro e
    rw [if_pos e] at h
    exact h rfl
  · exact .inl h1
theorem zeros_at (n i : Nat) : (List.replicate n (0 : Int)).getD i 0 = 0 := by
  simp only [List.getD, List.getElem?_replicate]
  split <;> rfl
/-- An array's cells, put together again. -/
theorem back_plain {s a : List Int} (r : Int) (hm : amE s a = 0) : mayE (onF s a r) = 0 ∧ onF s a r ++ onI s a r = s ∧ szE (onF s a r) = (onC s a r).length ∧ (∀ i, (onZ s a r).getD i 0 = 0) ∧
    ((onC s a r).length = 0 → emE (onF s a r) (onI s a r) (onZ s a r) true = 0 ∧ emS (onF s a r) (onI s a r) (onZ s a r) true = s ∧ a = []) ∧
    ((onC s a r).length ≠ 0 → jnE (onF s a r) (onC s a r) = 0 ∧ jnS (onF s a r) (onC s a r) = s ∧ jnA (onF s a r) (onC s a r) = a) := by
  obtain ⟨m1, m2⟩ := amE_zero hm
  unfold onF onI onC onZ
  rw [if_pos hm, if_pos hm, if_pos hm, if_pos hm]
  obtain ⟨k, hk⟩ : ∃ k, onK s r = k := ⟨_, rfl⟩
  rw [hk]
  obtain ⟨fr, hfr⟩ : ∃ fr, s.take k = fr := ⟨_, rfl⟩
  obtain ⟨inn, hinn⟩ : ∃ inn, s.drop k = inn := ⟨_, rfl⟩
  rw [hfr, hinn]
  have hs : fr ++ inn = s := by rw [← hfr, ← hinn]; exact List.take_append_drop _ _
  have hmm : mayE (fr ++ inn) = 0 := by rw [hs]; exact m1
  obtain ⟨f1, f2⟩ := mayE_app hmm
  have b1 := pr_nonneg f1
  have b2 := pr_nonneg f2
  have ha : (a.length : Int) = pr (fr ++ inn) := by rw [hs]; exact m2.symm
  rw [List.length_map, List.length_range]
  refine ⟨f1, hs, by unfold szE; rw [if_pos f1]; omega, zeros_at _, fun h0 => ?_, fun h0 => ?_⟩
  · have e0 : pr fr = 0 := by omega
    have q1 : amE inn (List.replicate (pr inn).toNat 0) = 0 := by
      unfold amE
      rw [if_pos f2, if_pos (by rw [List.length_replicate]; omega)]
    have q2 : emE fr inn (List.replicate (pr inn).toNat 0) true = 0 := by
      unfold emE
      rw [if_pos f1, if_neg (by omega), if_pos rfl, if_pos q1, if_pos hmm]
    refine ⟨q2, ?_, ?_⟩
    · unfold emS
      rw [if_pos q2, if_pos rfl, hs]
    · rw [pr_app, e0, Int.zero_mul] at ha
      exact List.length_eq_zero_iff.1 (by omega)
  · obtain ⟨c1, c2⟩ := cells_back hmm ha (by omega)
    have q1 : bgE fr = 0 := by unfold bgE; rw [if_pos f1, if_neg (by omega)]
    unfold jnE jnS jnA dnE dnS dnA
    rw [c1, if_pos q1, if_pos q1, if_pos q1]
    simp only [if_true]
    rw [List.length_map, List.length_range, if_neg (by omega), if_neg (by omega), if_neg (by omega)]
    exact ⟨rfl, hs, c2⟩
section
variable {P : Program} {F0 : Nat → Prop} {w0 w : World} {L : List Pt} {i : Nat}
/-- append under a guard that holds. -/
theorem Sp.step_locG (H : Sp F0 w0 w L) {ops : Array Oper} {o : Oper} {a : Act} {K : Act → World → Prop} {Q : Exit → Act → World → Prop} {Z : Prop} (hw : Region.wanted o (yielded ops a.tmps) = true) (s x : Operand) (t : TypeId)
    (ho : o.op = .call { callee := .builtin .append, args := #[s, x], argTypes := #[t, t] })
    (E : TypeId) (q : TypeInfo) (ht : P.underlying t = some (.slice E)) (hi : P.info? E = some q) (hz : q.zero = some (.int .i64 0)) (hsize : q.size = 1) (hby : q.bytes = 8)
    {ao : Option Addr} {n c : Nat} {xs : List Int} (hr : L[i]? = some (Pt.ints E ao n c xs)) (hs : a.eval s = .slice ao n c) {la : Option Addr} {m lc : Nat} {zs : List Int} (hx : a.eval x = .slice la m lc) (hL : Ls w la m lc zs) (h63 : (n + m) * 8 ≤ 140737488351232)
    (hk : ∀ bo d w', Sp F0 w0 w' (L.set i (Pt.ints E bo (n + m) d (xs ++ zs))) → K (a.put o.dst (.slice bo (n + m) d)) w') :
    if Region.wanted o (yielded ops a.tmps) = true then Oper.wp P o a w K Q else Z := by
  rw [if_pos hw]
  exact H.wp_loc s x t ho E q ht hi hz hsize hby hr hs hx hL h63 hk
end
end Go.Proofs.Ytfmabpdkjhlihaa

/- Arguments opened: slices of slices of integers. -/
import Derived.Test.YtoippfoeghjdoaaOpenArr
import Derived.Test.YtoippfoeghjdoaaShapeCover
namespace Go.Proofs.Ytoippfoeghjdoaa
open Go.ChangeShapes Go.WideShapes Go.ChangeAt Go.RowKit Go.Deep
set_option linter.unusedVariables false
set_option linter.unusedSimpArgs false
section
variable {H : Type} {enc : TypeId × Value → H} {W : World}
theorem weightsAll_mem {e : TypeId} : ∀ {l : List (DataW H)} {d : DataW H}, d ∈ l → ∀ n ∈ d.weights Try.prog e, n ∈ DataW.weightsAll Try.prog e l
  | x :: l, d, hd, n, hn => by
    simp only [DataW.weightsAll, List.mem_append]
    rcases List.mem_cons.1 hd with rfl | h
    · exact .inl hn
    · exact .inr (weightsAll_mem h n hn)
  | [], d, hd, _, _ => by simp at hd
/-- The list that a slice value reads as. -/
noncomputable def lsOf (W : World) (v : Value) : List Int := open Classical in if h : ∃ ao n c zs, v = .slice ao n c ∧ Ls W ao n c zs then h.choose_spec.choose_spec.choose_spec.choose else []
theorem lsOf_spec {v : Value} (h : ∃ ao n c zs, v = .slice ao n c ∧ Ls W ao n c zs) : ∃ ao n c, v = .slice ao n c ∧ Ls W ao n c (lsOf W v) := by
  unfold lsOf
  rw [dif_pos h]
  exact ⟨_, _, _, h.choose_spec.choose_spec.choose_spec.choose_spec⟩
set_option maxRecDepth 100000 in
theorem isSls {b0 : Nat} {v : Value} {d : DataW H} {p : List MemPlace} (h : DataW.Trod enc Try.prog W 0 (fun _ => true) true 45 v d p) (hv : Value.okWide Try.prog W .any b0 45 v)
    (hw : ∀ n ∈ d.weights Try.prog 45, n ≤ reachBytes) : ∃ ao n c zss, v = .slice ao n c ∧ Lss W ao n c zss := by
  obtain ⟨a, l, c, rfl⟩ := okWide_slice Try.underlying45 hv
  obtain ⟨fuel, hf⟩ := h
  rcases open_slice Try.underlying45 hf with ⟨hcs, _⟩ | ⟨ad, l', c', m, nn, D, Pl, hcs, _, hl, hm, hmm, hx, hat⟩
  · simp [Value.cells] at hcs
    obtain ⟨rfl, rfl, rfl⟩ := hcs
    exact ⟨none, 0, 0, [], rfl, rfl, Nat.le_refl _, by simp, Nat.zero_le _, fun h => absurd h (by simp)⟩
  · simp [Value.cells] at hcs
    obtain ⟨rfl, rfl, rfl⟩ := hcs
    simp only [if_true] at hmm
    subst hmm
    simp only [Prod.mk.injEq] at hx
    obtain ⟨hd, _⟩ := hx
    subst hd
    have hw2 : ∀ n ∈ (DataW.slice ((List.range l).map D) ((List.range (m - l)).map fun j => D (l + j))).weights Try.prog 45, n ≤ reachBytes := hw
    have hbig := hw2 ((l + (m - l)) * 24) (by simp [DataW.weights, Try.underlying45, show Try.prog.bytesOf 25 = 24 by kernel_rfl])
    have hel : ∀ i, i < l → ∀ n ∈ (D i).weights Try.prog 25, n ≤ reachBytes := by
      intro i hi n hn
      refine hw2 n ?_
      simp only [DataW.weights, Try.underlying45, List.mem_cons, List.mem_append]
      exact .inr (.inl (weightsAll_mem (d := D i) (by simp; exact ⟨i, hi, rfl⟩) n hn))
    have hC : Try.prog.cellsOf 25 = 1 := by kernel_rfl
    have cell : ∀ i, i < l → ∃ v : Value, W.cell? (ad.add i) = some v ∧ ∃ ao n c zs, v = .slice ao n c ∧ Ls W ao n c zs := by
      intro i hi
      obtain ⟨cs', hc, ht'⟩ := hat i (by omega)
      rw [hC, Nat.mul_one] at hc
      obtain ⟨_, hcl, hc1⟩ := World.cells?_some hc
      obtain ⟨ao, n, c, zs, e, hL⟩ := ls_trod (x := (D i, Pl i)) Try.underlying25 Try.underlying3 (by kernel_rfl) (by kernel_rfl) ht' (hel i hi)
      subst e
      have h1 := hc1 0 (by omega)
      rw [Deep.add_add] at h1
      exact ⟨_, by simpa using h1, ao, n, c, zs, rfl, hL⟩
    obtain ⟨b, off, spot⟩ := ad
    by_cases h0 : l = 0
    · subst h0
      exact ⟨_, 0, m, [], rfl, rfl, hl, by simp, hm, fun h => absurd h (by simp)⟩
    · obtain ⟨v0, hc0, _⟩ := cell 0 (by omega)
      have hspot : spot = none := by simpa [Addr.add] using World.cell?_spot hc0
      subst hspot
      have hlt : b < W.heap.size := by have := World.block_lt_of_cell? W _ hc0; simpa [Addr.add_lit] using this
      refine ⟨_, l, m, (List.range l).map fun i => lsOf W ((W.cell? (Addr.add ⟨b, off, none⟩ i)).getD (.slice none 0 0)), rfl, by simp, hl, ?_, hm, fun _ => ⟨b, off, rfl, hlt, fun i hi => ?_⟩⟩
      · unfold reachBytes at hbig; omega
      · obtain ⟨v, hv, hs⟩ := cell i hi
        obtain ⟨ao, n, c, e, hL⟩ := lsOf_spec hs
        refine ⟨ao, n, c, ?_, ?_⟩
        · rw [Addr.add_lit] at hv; rw [hv, e]
        · have : ((List.range l).map fun i => lsOf W ((W.cell? (Addr.add ⟨b, off, none⟩ i)).getD (.slice none 0 0))).getD i [] = lsOf W v := by
            simp [List.getD, hi, hv]
          rw [this]; exact hL
end
end Go.Proofs.Ytoippfoeghjdoaa

/- Arguments opened: slices of arrays. -/
import Derived.Test.YtfmabpdkjhlihaaOpenArr
import Derived.Test.YtfmabpdkjhlihaaSep3
namespace Go.Proofs.Ytfmabpdkjhlihaa
open Go.ChangeShapes Go.WideShapes Go.ChangeAt Go.RowKit Go.Deep
set_option linter.unusedVariables false
set_option linter.unusedSimpArgs false
section
variable {H : Type} {enc : TypeId × Value → H} {W : World}
theorem wtAll_mem {e : TypeId} : ∀ {l : List (DataW H)} {d : DataW H}, d ∈ l → ∀ n ∈ d.weights Try.prog e, n ∈ DataW.weightsAll Try.prog e l
  | x :: l, d, hd, n, hn => by
    simp only [DataW.weightsAll, List.mem_append]
    rcases List.mem_cons.1 hd with rfl | h
    · exact .inl hn
    · exact .inr (wtAll_mem h n hn)
  | [], d, hd, _, _ => by simp at hd
/-- The array that two cells read as. -/
noncomputable def arOf (W : World) (b off : Nat) : Ar :=
  open Classical in if h : ∃ A : Ar, (W.cell? ⟨b, off, none⟩ = some (.slice A.sa A.sn A.sc) ∧ W.cell? ⟨b, off + 1, none⟩ = some (.slice A.aa A.an A.ac)) ∧ A.Is W then h.choose else ⟨none, 0, 0, none, 0, 0, [], []⟩
theorem arOf_spec {W : World} {b off : Nat} (h : ∃ A : Ar, (W.cell? ⟨b, off, none⟩ = some (.slice A.sa A.sn A.sc) ∧ W.cell? ⟨b, off + 1, none⟩ = some (.slice A.aa A.an A.ac)) ∧ A.Is W) :
    (W.cell? ⟨b, off, none⟩ = some (.slice (arOf W b off).sa (arOf W b off).sn (arOf W b off).sc) ∧ W.cell? ⟨b, off + 1, none⟩ = some (.slice (arOf W b off).aa (arOf W b off).an (arOf W b off).ac)) ∧ (arOf W b off).Is W := by
  unfold arOf; rw [dif_pos h]; exact h.choose_spec
set_option maxRecDepth 100000 in
theorem isArs {b0 : Nat} {v : Value} {d : DataW H} {p : List MemPlace} (h : DataW.Trod enc Try.prog W 0 (fun _ => true) true 27 v d p) (hv : Value.okWide Try.prog W .any b0 27 v)
    (hw : ∀ n ∈ d.weights Try.prog 27, n ≤ reachBytes) : ∃ ao n c As, v = .slice ao n c ∧ (Ars W ao n c As ∧ n * 48 ≤ 140737488355328) := by
  obtain ⟨a, l, c, rfl⟩ := okWide_slice Try.underlying27 hv
  obtain ⟨fuel, hf⟩ := h
  rcases open_slice Try.underlying27 hf with ⟨hcs, _⟩ | ⟨ad, l', c', m, nn, D, Pl, hcs, _, hl, hm, hmm, hx, hat⟩
  · simp [Value.cells] at hcs
    obtain ⟨rfl, rfl, rfl⟩ := hcs
    exact ⟨none, 0, 0, [], rfl, ⟨rfl, Nat.le_refl _, by simp, fun h => absurd h (by simp), fun i A hA => by simp at hA⟩, by simp⟩
  · simp [Value.cells] at hcs
    obtain ⟨rfl, rfl, rfl⟩ := hcs
    simp only [if_true] at hmm
    subst hmm
    simp only [Prod.mk.injEq] at hx
    obtain ⟨hd, _⟩ := hx
    subst hd
    have hw2 : ∀ n ∈ (DataW.slice ((List.range l).map D) ((List.range (m - l)).map fun j => D (l + j))).weights Try.prog 27, n ≤ reachBytes := hw
    have hbig := hw2 ((l + (m - l)) * 48) (by simp [DataW.weights, Try.underlying27, show Try.prog.bytesOf 25 = 48 by kernel_rfl])
    have hel : ∀ i, i < l → ∀ n ∈ (D i).weights Try.prog 25, n ≤ reachBytes := by
      intro i hi n hn
      refine hw2 n ?_
      simp only [DataW.weights, Try.underlying27, List.mem_cons, List.mem_append]
      exact .inr (.inl (wtAll_mem (d := D i) (by simp; exact ⟨i, hi, rfl⟩) n hn))
    have hC : Try.prog.cellsOf 25 = 2 := by kernel_rfl
    have cell : ∀ i, i < l → ∃ A : Ar, (W.cell? (ad.add (i * 2)) = some (.slice A.sa A.sn A.sc) ∧ W.cell? ((ad.add (i * 2)).add 1) = some (.slice A.aa A.an A.ac)) ∧ A.Is W := by
      intro i hi
      obtain ⟨cs', hc, ht'⟩ := hat i (by omega)
      rw [hC] at hc
      obtain ⟨_, hcl, hc1⟩ := World.cells?_some hc
      obtain ⟨A, eA, hI⟩ := ar_trod (x := (D i, Pl i)) ht' (hel i hi)
      subst eA
      have h0 := hc1 0 (by omega)
      have h1 := hc1 1 (by omega)
      rw [Deep.add_add, Nat.add_zero] at h0
      exact ⟨A, ⟨h0, h1⟩, hI⟩
    obtain ⟨b, off, spot⟩ := ad
    by_cases h0 : l = 0
    · subst h0
      exact ⟨_, 0, m, [], rfl, ⟨rfl, hl, hm, fun h => absurd h (by simp), fun i A hA => by simp at hA⟩, by simp⟩
    · obtain ⟨A0, ⟨hc0, _⟩, _⟩ := cell 0 (by omega)
      have hspot : spot = none := by simpa [Addr.add] using World.cell?_spot hc0
      subst hspot
      have hlt : b < W.heap.size := by have := World.block_lt_of_cell? W _ hc0; simpa [Addr.add_lit] using this
      have sp := fun i (hi : i < l) => arOf_spec (W := W) (b := b) (off := off + i * 2) (by
        obtain ⟨A, ⟨g1, g2⟩, g3⟩ := cell i hi
        rw [Addr.add_lit] at g1 g2
        rw [Addr.add_lit] at g2
        exact ⟨A, ⟨g1, g2⟩, g3⟩)
      have hg : ∀ (i : Nat) (A : Ar), ((List.range l).map fun i => arOf W b (off + i * 2))[i]? = some A → i < l ∧ A = arOf W b (off + i * 2) := fun i A hA => by
        rw [List.getElem?_map] at hA
        rcases Nat.lt_or_ge i l with h | h
        · rw [List.getElem?_range h] at hA
          simp at hA
          exact ⟨h, hA.symm⟩
        · rw [List.getElem?_eq_none (by simpa using h)] at hA; simp at hA
      refine ⟨_, l, m, (List.range l).map fun i => arOf W b (off + i * 2), rfl, ⟨by simp, hl, hm, fun _ => ⟨b, off, rfl, hlt, fun i A hA => ?_⟩, fun i A hA => ?_⟩, ?_⟩
      · obtain ⟨hi, rfl⟩ := hg i A hA
        obtain ⟨⟨g1, g2⟩, g3⟩ := sp i hi
        exact ⟨g1, by rw [← Nat.add_assoc]; exact g2⟩
      · obtain ⟨hi, rfl⟩ := hg i A hA
        exact (sp i hi).2
      · unfold reachBytes at hbig; omega
end
end Go.Proofs.Ytfmabpdkjhlihaa

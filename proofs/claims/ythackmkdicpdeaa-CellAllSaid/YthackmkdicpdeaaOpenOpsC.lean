/- Arguments opened: slices of arrays. Arguments opened: slices of calls of layer 4. -/
import Derived.Test.YthackmkdicpdeaaOpenArr
import Derived.Test.YthackmkdicpdeaaSep3
import Derived.Test.YthackmkdicpdeaaOpC
namespace Go.Proofs.Ythackmkdicpdeaa
open Go.ChangeShapes Go.WideShapes Go.ChangeAt Go.RowKit Go.Deep
set_option linter.unusedVariables false
set_option linter.unusedSimpArgs false
section
variable {H : Type} {enc : TypeId × Value → H} {W : World}
theorem wtAll_mem {e : TypeId} : ∀ {l : List (DataW H)} {d : DataW H}, d ∈ l → ∀ n ∈ d.weights Try.prog e, n ∈ DataW.weightsAll Try.prog e l
  | x :: l, d, hd, n, hn => by
    simp only [DataW.weightsAll, List.mem_append]
    rcases List.mem_cons.1 hd with rfl | h
    · exact .inl hn
    · exact .inr (wtAll_mem h n hn)
  | [], d, hd, _, _ => by simp at hd
/-- The array that two cells read as. -/
noncomputable def arOf (W : World) (b off : Nat) : Ar :=
  open Classical in if h : ∃ A : Ar, (W.cell? ⟨b, off, none⟩ = some (.slice A.sa A.sn A.sc) ∧ W.cell? ⟨b, off + 1, none⟩ = some (.slice A.aa A.an A.ac)) ∧ A.Is W then h.choose else ⟨none, 0, 0, none, 0, 0, [], []⟩
theorem arOf_spec {W : World} {b off : Nat} (h : ∃ A : Ar, (W.cell? ⟨b, off, none⟩ = some (.slice A.sa A.sn A.sc) ∧ W.cell? ⟨b, off + 1, none⟩ = some (.slice A.aa A.an A.ac)) ∧ A.Is W) :
    (W.cell? ⟨b, off, none⟩ = some (.slice (arOf W b off).sa (arOf W b off).sn (arOf W b off).sc) ∧ W.cell? ⟨b, off + 1, none⟩ = some (.slice (arOf W b off).aa (arOf W b off).an (arOf W b off).ac)) ∧ (arOf W b off).Is W := by
  unfold arOf; rw [dif_pos h]; exact h.choose_spec
set_option maxRecDepth 100000 in
theorem isArs {b0 : Nat} {v : Value} {d : DataW H} {p : List MemPlace} (h : DataW.Trod enc Try.prog W 0 (fun _ => true) true 32 v d p) (hv : Value.okWide Try.prog W .any b0 32 v)
    (hw : ∀ n ∈ d.weights Try.prog 32, n ≤ reachBytes) : ∃ ao n c As, v = .slice ao n c ∧ (Ars W ao n c As ∧ n * 48 ≤ 140737488355328) := by
  obtain ⟨a, l, c, rfl⟩ := okWide_slice Try.underlying32 hv
  obtain ⟨fuel, hf⟩ := h
  rcases open_slice Try.underlying32 hf with ⟨hcs, _⟩ | ⟨ad, l', c', m, nn, D, Pl, hcs, _, hl, hm, hmm, hx, hat⟩
  · simp [Value.cells] at hcs
    obtain ⟨rfl, rfl, rfl⟩ := hcs
    exact ⟨none, 0, 0, [], rfl, ⟨rfl, Nat.le_refl _, by simp, fun h => absurd h (by simp), fun i A hA => by simp at hA⟩, by simp⟩
  · simp [Value.cells] at hcs
    obtain ⟨rfl, rfl, rfl⟩ := hcs
    simp only [if_true] at hmm
    subst hmm
    simp only [Prod.mk.injEq] at hx
    obtain ⟨hd, _⟩ := hx
    subst hd
    have hw2 : ∀ n ∈ (DataW.slice ((List.range l).map D) ((List.range (m - l)).map fun j => D (l + j))).weights Try.prog 32, n ≤ reachBytes := hw
    have hbig := hw2 ((l + (m - l)) * 48) (by simp [DataW.weights, Try.underlying32, show Try.prog.bytesOf 45 = 48 by kernel_rfl])
    have hel : ∀ i, i < l → ∀ n ∈ (D i).weights Try.prog 45, n ≤ reachBytes := by
      intro i hi n hn
      refine hw2 n ?_
      simp only [DataW.weights, Try.underlying32, List.mem_cons, List.mem_append]
      exact .inr (.inl (wtAll_mem (d := D i) (by simp; exact ⟨i, hi, rfl⟩) n hn))
    have hC : Try.prog.cellsOf 45 = 2 := by kernel_rfl
    have cell : ∀ i, i < l → ∃ A : Ar, (W.cell? (ad.add (i * 2)) = some (.slice A.sa A.sn A.sc) ∧ W.cell? ((ad.add (i * 2)).add 1) = some (.slice A.aa A.an A.ac)) ∧ A.Is W := by
      intro i hi
      obtain ⟨cs', hc, ht'⟩ := hat i (by omega)
      rw [hC] at hc
      obtain ⟨_, hcl, hc1⟩ := World.cells?_some hc
      obtain ⟨A, eA, hI⟩ := ar_trod (x := (D i, Pl i)) ht' (hel i hi)
      subst eA
      have h0 := hc1 0 (by omega)
      have h1 := hc1 1 (by omega)
      rw [Deep.add_add, Nat.add_zero] at h0
      exact ⟨A, ⟨h0, h1⟩, hI⟩
    obtain ⟨b, off, spot⟩ := ad
    by_cases h0 : l = 0
    · subst h0
      exact ⟨_, 0, m, [], rfl, ⟨rfl, hl, hm, fun h => absurd h (by simp), fun i A hA => by simp at hA⟩, by simp⟩
    · obtain ⟨A0, ⟨hc0, _⟩, _⟩ := cell 0 (by omega)
      have hspot : spot = none := by simpa [Addr.add] using World.cell?_spot hc0
      subst hspot
      have hlt : b < W.heap.size := by have := World.block_lt_of_cell? W _ hc0; simpa [Addr.add_lit] using this
      have sp := fun i (hi : i < l) => arOf_spec (W := W) (b := b) (off := off + i * 2) (by
        obtain ⟨A, ⟨g1, g2⟩, g3⟩ := cell i hi
        rw [Addr.add_lit] at g1 g2
        rw [Addr.add_lit] at g2
        exact ⟨A, ⟨g1, g2⟩, g3⟩)
      have hg : ∀ (i : Nat) (A : Ar), ((List.range l).map fun i => arOf W b (off + i * 2))[i]? = some A → i < l ∧ A = arOf W b (off + i * 2) := fun i A hA => by
        rw [List.getElem?_map] at hA
        rcases Nat.lt_or_ge i l with h | h
        · rw [List.getElem?_range h] at hA
          simp at hA
          exact ⟨h, hA.symm⟩
        · rw [List.getElem?_eq_none (by simpa using h)] at hA; simp at hA
      refine ⟨_, l, m, (List.range l).map fun i => arOf W b (off + i * 2), rfl, ⟨by simp, hl, hm, fun _ => ⟨b, off, rfl, hlt, fun i A hA => ?_⟩, fun i A hA => ?_⟩, ?_⟩
      · obtain ⟨hi, rfl⟩ := hg i A hA
        obtain ⟨⟨g1, g2⟩, g3⟩ := sp i hi
        exact ⟨g1, by rw [← Nat.add_assoc]; exact g2⟩
      · obtain ⟨hi, rfl⟩ := hg i A hA
        exact (sp i hi).2
      · unfold reachBytes at hbig; omega
end
end Go.Proofs.Ythackmkdicpdeaa
namespace Go.Proofs.Ythackmkdicpdeaa
open Go.ChangeShapes Go.WideShapes Go.ChangeAt Go.RowKit Go.Deep
set_option linter.unusedVariables false
set_option linter.unusedSimpArgs false
section
variable {H : Type} {enc : TypeId × Value → H} {W : World}
set_option maxRecDepth 100000 in
theorem ars_trod {fuel : Nat} {cs : List Value} {x : DataW H × List MemPlace} (hf : DataW.trod enc Try.prog W 0 (fun _ => true) true fuel 32 cs = some x)
    (hw : ∀ n ∈ x.1.weights Try.prog 32, n ≤ reachBytes) : ∃ ao n c As, cs = [.slice ao n c] ∧ (Ars W ao n c As ∧ n * 48 ≤ 140737488351232) := by
  rcases open_slice Try.underlying32 hf with ⟨hcs, _⟩ | ⟨ad, l, c', m, nn, D, Pl, hcs, _, hl, hm, hmm, hx, hat⟩
  · exact ⟨none, 0, 0, [], hcs, ⟨rfl, Nat.le_refl _, by simp, fun h => absurd h (by simp), fun i A hA => by simp at hA⟩, by simp⟩
  · subst hcs
    simp only [if_true] at hmm
    subst hmm
    subst hx
    have hw2 : ∀ n ∈ (DataW.slice ((List.range l).map D) ((List.range (m - l)).map fun j => D (l + j))).weights Try.prog 32, n ≤ reachBytes := hw
    have hbig := hw2 ((l + (m - l)) * 48) (by simp [DataW.weights, Try.underlying32, show Try.prog.bytesOf 45 = 48 by kernel_rfl])
    have hel : ∀ i, i < l → ∀ n ∈ (D i).weights Try.prog 45, n ≤ reachBytes := by
      intro i hi n hn
      refine hw2 n ?_
      simp only [DataW.weights, Try.underlying32, List.mem_cons, List.mem_append]
      exact .inr (.inl (wtAll_mem (d := D i) (by simp; exact ⟨i, hi, rfl⟩) n hn))
    have hC : Try.prog.cellsOf 45 = 2 := by kernel_rfl
    have cell : ∀ i, i < l → ∃ A : Ar, (W.cell? (ad.add (i * 2)) = some (.slice A.sa A.sn A.sc) ∧ W.cell? ((ad.add (i * 2)).add 1) = some (.slice A.aa A.an A.ac)) ∧ A.Is W := by
      intro i hi
      obtain ⟨cs', hc, ht'⟩ := hat i (by omega)
      rw [hC] at hc
      obtain ⟨_, hcl, hc1⟩ := World.cells?_some hc
      obtain ⟨A, eA, hI⟩ := ar_trod (x := (D i, Pl i)) ht' (hel i hi)
      subst eA
      have h0 := hc1 0 (by omega)
      have h1 := hc1 1 (by omega)
      rw [Deep.add_add, Nat.add_zero] at h0
      exact ⟨A, ⟨h0, h1⟩, hI⟩
    obtain ⟨b, off, spot⟩ := ad
    by_cases h0 : l = 0
    · subst h0
      exact ⟨_, 0, m, [], rfl, ⟨rfl, hl, hm, fun h => absurd h (by simp), fun i A hA => by simp at hA⟩, by simp⟩
    · obtain ⟨A0, ⟨hc0, _⟩, _⟩ := cell 0 (by omega)
      have hspot : spot = none := by simpa [Addr.add] using World.cell?_spot hc0
      subst hspot
      have hlt : b < W.heap.size := by have := World.block_lt_of_cell? W _ hc0; simpa [Addr.add_lit] using this
      have sp := fun i (hi : i < l) => arOf_spec (W := W) (b := b) (off := off + i * 2) (by
        obtain ⟨A, ⟨g1, g2⟩, g3⟩ := cell i hi
        rw [Addr.add_lit] at g1 g2
        rw [Addr.add_lit] at g2
        exact ⟨A, ⟨g1, g2⟩, g3⟩)
      have hg : ∀ (i : Nat) (A : Ar), ((List.range l).map fun i => arOf W b (off + i * 2))[i]? = some A → i < l ∧ A = arOf W b (off + i * 2) := fun i A hA => by
        rw [List.getElem?_map] at hA
        rcases Nat.lt_or_ge i l with h | h
        · rw [List.getElem?_range h] at hA
          simp at hA
          exact ⟨h, hA.symm⟩
        · rw [List.getElem?_eq_none (by simpa using h)] at hA; simp at hA
      refine ⟨_, l, m, (List.range l).map fun i => arOf W b (off + i * 2), rfl, ⟨by simp, hl, hm, fun _ => ⟨b, off, rfl, hlt, fun i A hA => ?_⟩, fun i A hA => ?_⟩, ?_⟩
      · obtain ⟨hi, rfl⟩ := hg i A hA
        obtain ⟨⟨g1, g2⟩, g3⟩ := sp i hi
        exact ⟨g1, by rw [← Nat.add_assoc]; exact g2⟩
      · obtain ⟨hi, rfl⟩ := hg i A hA
        exact (sp i hi).2
      · unfold reachBytes at hbig; omega
/-- The call that twelve cells read as. -/
noncomputable def opCOf (W : World) (b off : Nat) : OpC :=
  open Classical in if h : ∃ o : OpC, (∀ j v, o.cells[j]? = some v → W.cell? ⟨b, off + j, none⟩ = some v) ∧ o.Is W then h.choose else OpC.nil
theorem opCOf_spec {W : World} {b off : Nat} (h : ∃ o : OpC, (∀ j v, o.cells[j]? = some v → W.cell? ⟨b, off + j, none⟩ = some v) ∧ o.Is W) :
    (∀ j v, (opCOf W b off).cells[j]? = some v → W.cell? ⟨b, off + j, none⟩ = some v) ∧ (opCOf W b off).Is W := by
  unfold opCOf; rw [dif_pos h]; exact h.choose_spec
set_option maxRecDepth 100000 in
theorem isOpsC {b0 : Nat} {v : Value} {d : DataW H} {p : List MemPlace} (h : DataW.Trod enc Try.prog W 0 (fun _ => true) true 22 v d p) (hv : Value.okWide Try.prog W .any b0 22 v)
    (hw : ∀ n ∈ d.weights Try.prog 22, n ≤ reachBytes) : ∃ ao n c os, v = .slice ao n c ∧ OpsC W ao n c os := by
  obtain ⟨a, l, c, rfl⟩ := okWide_slice Try.underlying22 hv
  obtain ⟨fuel, hf⟩ := h
  rcases open_slice Try.underlying22 hf with ⟨hcs, _⟩ | ⟨ad, l', c', m, nn, D, Pl, hcs, _, hl, hm, hmm, hx, hat⟩
  · simp [Value.cells] at hcs
    obtain ⟨rfl, rfl, rfl⟩ := hcs
    exact ⟨none, 0, 0, fun _ => OpC.nil, rfl, by omega, by omega, fun h => absurd h (by simp), fun i hi => absurd hi (by simp)⟩
  · simp [Value.cells] at hcs
    obtain ⟨rfl, rfl, rfl⟩ := hcs
    simp only [if_true] at hmm
    subst hmm
    simp only [Prod.mk.injEq] at hx
    obtain ⟨hd, _⟩ := hx
    subst hd
    have hw2 : ∀ n ∈ (DataW.slice ((List.range l).map D) ((List.range (m - l)).map fun j => D (l + j))).weights Try.prog 22, n ≤ reachBytes := hw
    have hbig := hw2 ((l + (m - l)) * 192) (by simp [DataW.weights, Try.underlying22, show Try.prog.bytesOf 47 = 192 by kernel_rfl])
    have hel : ∀ i, i < l → ∀ n ∈ (D i).weights Try.prog 47, n ≤ reachBytes := by
      intro i hi n hn
      refine hw2 n ?_
      simp only [DataW.weights, Try.underlying22, List.mem_cons, List.mem_append]
      exact .inr (.inl (wtAll_mem (d := D i) (by simp; exact ⟨i, hi, rfl⟩) n hn))
    have hC : Try.prog.cellsOf 47 = 12 := by kernel_rfl
    have hC2 : Try.prog.cellsOf 45 = 2 := by kernel_rfl
    have hC1 : Try.prog.cellsOf 3 = 1 := by kernel_rfl
    have hC3 : Try.prog.cellsOf 2 = 1 := by kernel_rfl
    have hC4 : Try.prog.cellsOf 25 = 1 := by kernel_rfl
    have hC5 : Try.prog.cellsOf 32 = 1 := by kernel_rfl
    have hC6 : Try.prog.cellsOf 4 = 1 := by kernel_rfl
    have cell : ∀ i, i < l → ∃ o : OpC, (∀ j v, o.cells[j]? = some v → W.cell? ((ad.add (i * 12)).add j) = some v) ∧ o.Is W := by
      intro i hi
      obtain ⟨cs', hc, ht'⟩ := hat i (by omega)
      rw [hC] at hc
      obtain ⟨_, hcl, hc1⟩ := World.cells?_some hc
      obtain ⟨xs, n', _, hx', _, hlen, hff⟩ := DataW.trod_struct Try.underlying47 ht'
      match cs', hcl with
      | [c0, c1, c2, c3, c4, c5, c6, c7, c8, c9, c10, c11], _ =>
        match xs, hlen with
        | [y0, y1, y2, y3, y4, y5, y6, y7, y8, y9], _ =>
          have h0 := hff 0 _ rfl
          have h1 := hff 1 _ rfl
          have h2 := hff 2 _ rfl
          have h3 := hff 3 _ rfl
          have h4 := hff 4 _ rfl
          have h5 := hff 5 _ rfl
          have h6 := hff 6 _ rfl
          have h7 := hff 7 _ rfl
          have h8 := hff 8 _ rfl
          have h9 := hff 9 _ rfl
          simp [hC1, hC2, hC3, hC4, hC5, hC6] at h0 h1 h2 h3 h4 h5 h6 h7 h8 h9
          simp only [Prod.mk.injEq] at hx'
          have hwi := hel i hi
          rw [hx'.1] at hwi
          simp only [DataW.weights, Try.underlying47, DataW.weightsEach, List.mem_append, List.map_cons, List.map_nil, List.append_nil] at hwi
          obtain ⟨k0, e0, _, r0⟩ := DataW.trod_int Try.underlying3 h0
          obtain ⟨k1, e1, _, r1⟩ := DataW.trod_int Try.underlying3 h1
          obtain ⟨A2, e2, I2⟩ := ar_trod h2 (fun n hn => hwi n (by simp [hn]))
          obtain ⟨A3, e3, I3⟩ := ar_trod h3 (fun n hn => hwi n (by simp [hn]))
          obtain ⟨k4, e4, _, r4⟩ := DataW.trod_int Try.underlying3 h4
          obtain ⟨k5, e5, _, r5⟩ := DataW.trod_int Try.underlying3 h5
          obtain ⟨k6, e6, _, r6⟩ := DataW.trod_int Try.underlying2 h6
          obtain ⟨a7, n7, cc7, s7, e7, I7⟩ := ls_trod Try.underlying25 Try.underlying3 (by kernel_rfl) (by kernel_rfl) h7 (fun n hn => hwi n (by simp [hn]))
          obtain ⟨a8, n8, cc8, s8, e8, I8, J8⟩ := ars_trod h8 (fun n hn => hwi n (by simp [hn]))
          obtain ⟨b9, e9, _⟩ := DataW.trod_bool Try.underlying4 h9
          cases e0; cases e1; cases e2; cases e3; cases e4; cases e5; cases e6; cases e7; cases e8; cases e9
          refine ⟨⟨k0, k1, A2, A3, k4, k5, k6, a7, n7, cc7, s7, a8, n8, cc8, s8, b9⟩, fun j v hj => ?_, ⟨I2, I3, I7, I8, rng64' r4, rng64' r5, rng64' r6, J8⟩⟩
          have hj12 : j < 12 := by
            rcases Nat.lt_or_ge j 12 with h | h
            · exact h
            · rw [Array.getElem?_eq_none (by simpa [OpC.cells] using h)] at hj; cases hj
          rw [hc1 j hj12, ← hj]
          simp [OpC.cells]
    obtain ⟨b, off, spot⟩ := ad
    by_cases h0 : l = 0
    · subst h0
      exact ⟨_, 0, m, fun _ => OpC.nil, rfl, by omega, by omega, fun h => absurd h (by simp), fun i hi => absurd hi (by simp)⟩
    · obtain ⟨o0, hc0, _⟩ := cell 0 (by omega)
      have hc00 := hc0 0 _ rfl
      have hspot : spot = none := by simpa [Addr.add] using World.cell?_spot hc00
      subst hspot
      have hlt : b < W.heap.size := by have := World.block_lt_of_cell? W _ hc00; simpa [Addr.add_lit] using this
      have sp : ∀ i, i < l → (∀ j v, (opCOf W b (off + i * 12)).cells[j]? = some v → W.cell? ⟨b, off + i * 12 + j, none⟩ = some v) ∧ (opCOf W b (off + i * 12)).Is W := by
        intro i hi
        apply opCOf_spec
        obtain ⟨o, h1, h2⟩ := cell i hi
        exact ⟨o, fun j v hj => by have := h1 j v hj; rwa [Addr.add_lit, Addr.add_lit] at this, h2⟩
      refine ⟨_, l, m, fun i => opCOf W b (off + i * 12), rfl, ?_, by omega, fun _ => ⟨b, off, rfl, hlt, fun i hi j v hj => ?_⟩, fun i hi => (sp i hi).2⟩
      · unfold reachBytes at hbig; omega
      · rw [← Nat.add_assoc]; exact (sp i hi).1 j v hj
end
end Go.Proofs.Ythackmkdicpdeaa

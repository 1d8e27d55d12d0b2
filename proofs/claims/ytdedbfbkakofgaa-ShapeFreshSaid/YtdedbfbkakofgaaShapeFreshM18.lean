/- Arguments opened: slices of slices of integers. Arguments opened: slices of calls of layer 2. -/
import Derived.Test.YtdedbfbkakofgaaShapeFreshM17
import Derived.Test.YtdedbfbkakofgaaShapeFreshM11
import Derived.Test.YtdedbfbkakofgaaShapeFreshM0
namespace Go.Proofs.Ytdedbfbkakofgaa
open Go.ChangeShapes Go.WideShapes Go.ChangeAt Go.RowKit Go.Deep
set_option linter.unusedVariables false
set_option linter.unusedSimpArgs false
section
variable {H : Type} {enc : TypeId × Value → H} {W : World}
theorem weightsAll_mem {e : TypeId} : ∀ {l : List (DataW H)} {d : DataW H}, d ∈ l → ∀ n ∈ d.weights Try.prog e, n ∈ DataW.weightsAll Try.prog e l
  | x :: l, d, hd, n, hn => by
    simp only [DataW.weightsAll, List.mem_append]
    rcases List.mem_cons.1 hd with rfl | h
    · exact .inl hn
    · exact .inr (weightsAll_mem h n hn)
  | [], d, hd, _, _ => by simp at hd
/-- The list that a slice value reads as. -/
noncomputable def lsOf (W : World) (v : Value) : List Int := open Classical in if h : ∃ ao n c zs, v = .slice ao n c ∧ Ls W ao n c zs then h.choose_spec.choose_spec.choose_spec.choose else []
theorem lsOf_spec {v : Value} (h : ∃ ao n c zs, v = .slice ao n c ∧ Ls W ao n c zs) : ∃ ao n c, v = .slice ao n c ∧ Ls W ao n c (lsOf W v) := by
  unfold lsOf
  rw [dif_pos h]
  exact ⟨_, _, _, h.choose_spec.choose_spec.choose_spec.choose_spec⟩
set_option maxRecDepth 100000 in
theorem isSls {b0 : Nat} {v : Value} {d : DataW H} {p : List MemPlace} (h : DataW.Trod enc Try.prog W 0 (fun _ => true) true 29 v d p) (hv : Value.okWide Try.prog W .any b0 29 v)
    (hw : ∀ n ∈ d.weights Try.prog 29, n ≤ reachBytes) : ∃ ao n c zss, v = .slice ao n c ∧ Lss W ao n c zss := by
  obtain ⟨a, l, c, rfl⟩ := okWide_slice Try.underlying29 hv
  obtain ⟨fuel, hf⟩ := h
  rcases open_slice Try.underlying29 hf with ⟨hcs, _⟩ | ⟨ad, l', c', m, nn, D, Pl, hcs, _, hl, hm, hmm, hx, hat⟩
  · simp [Value.cells] at hcs
    obtain ⟨rfl, rfl, rfl⟩ := hcs
    exact ⟨none, 0, 0, [], rfl, rfl, Nat.le_refl _, by simp, Nat.zero_le _, fun h => absurd h (by simp)⟩
  · simp [Value.cells] at hcs
    obtain ⟨rfl, rfl, rfl⟩ := hcs
    simp only [if_true] at hmm
    subst hmm
    simp only [Prod.mk.injEq] at hx
    obtain ⟨hd, _⟩ := hx
    subst hd
    have hw2 : ∀ n ∈ (DataW.slice ((List.range l).map D) ((List.range (m - l)).map fun j => D (l + j))).weights Try.prog 29, n ≤ reachBytes := hw
    have hbig := hw2 ((l + (m - l)) * 24) (by simp [DataW.weights, Try.underlying29, show Try.prog.bytesOf 25 = 24 by kernel_rfl])
    have hel : ∀ i, i < l → ∀ n ∈ (D i).weights Try.prog 25, n ≤ reachBytes := by
      intro i hi n hn
      refine hw2 n ?_
      simp only [DataW.weights, Try.underlying29, List.mem_cons, List.mem_append]
      exact .inr (.inl (weightsAll_mem (d := D i) (by simp; exact ⟨i, hi, rfl⟩) n hn))
    have hC : Try.prog.cellsOf 25 = 1 := by kernel_rfl
    have cell : ∀ i, i < l → ∃ v : Value, W.cell? (ad.add i) = some v ∧ ∃ ao n c zs, v = .slice ao n c ∧ Ls W ao n c zs := by
      intro i hi
      obtain ⟨cs', hc, ht'⟩ := hat i (by omega)
      rw [hC, Nat.mul_one] at hc
      obtain ⟨_, hcl, hc1⟩ := World.cells?_some hc
      obtain ⟨ao, n, c, zs, e, hL⟩ := ls_trod (x := (D i, Pl i)) Try.underlying25 Try.underlying3 (by kernel_rfl) (by kernel_rfl) ht' (hel i hi)
      subst e
      have h1 := hc1 0 (by omega)
      rw [Deep.add_add] at h1
      exact ⟨_, by simpa using h1, ao, n, c, zs, rfl, hL⟩
    obtain ⟨b, off, spot⟩ := ad
    by_cases h0 : l = 0
    · subst h0
      exact ⟨_, 0, m, [], rfl, rfl, hl, by simp, hm, fun h => absurd h (by simp)⟩
    · obtain ⟨v0, hc0, _⟩ := cell 0 (by omega)
      have hspot : spot = none := by simpa [Addr.add] using World.cell?_spot hc0
      subst hspot
      have hlt : b < W.heap.size := by have := World.block_lt_of_cell? W _ hc0; simpa [Addr.add_lit] using this
      refine ⟨_, l, m, (List.range l).map fun i => lsOf W ((W.cell? (Addr.add ⟨b, off, none⟩ i)).getD (.slice none 0 0)), rfl, by simp, hl, ?_, hm, fun _ => ⟨b, off, rfl, hlt, fun i hi => ?_⟩⟩
      · unfold reachBytes at hbig; omega
      · obtain ⟨v, hv, hs⟩ := cell i hi
        obtain ⟨ao, n, c, e, hL⟩ := lsOf_spec hs
        refine ⟨ao, n, c, ?_, ?_⟩
        · rw [Addr.add_lit] at hv; rw [hv, e]
        · have : ((List.range l).map fun i => lsOf W ((W.cell? (Addr.add ⟨b, off, none⟩ i)).getD (.slice none 0 0))).getD i [] = lsOf W v := by
            simp [List.getD, hi, hv]
          rw [this]; exact hL
end
end Go.Proofs.Ytdedbfbkakofgaa

namespace Go.Proofs.Ytdedbfbkakofgaa
open Go.ChangeShapes Go.WideShapes Go.ChangeAt Go.RowKit Go.Deep
set_option linter.unusedVariables false
set_option linter.unusedSimpArgs false
theorem rng64w2 {a : Int} (h : (Lit.int .i64 a).wf = true) : -9223372036854775808 ≤ a ∧ a ≤ 9223372036854775807 := by
  simp [Lit.wf, IntKind.min, IntKind.max, IntKind.signed, IntKind.bits] at h; omega
/-- A call of layer 2. -/
structure Op2 where
  k : Int
  sa : Option Addr
  sn : Nat
  sc : Nat
  s : List Int
  ta : Option Addr
  tn : Nat
  tc : Nat
  t : List Int
  nn : Int
  ma : Option Addr
  mn : Nat
  mc : Nat
  m : List (List Int)
def Op2.cells (o : Op2) : Array Value := #[.int .i64 o.k, .slice o.sa o.sn o.sc, .slice o.ta o.tn o.tc, .int .i64 o.nn, .slice o.ma o.mn o.mc]
structure Op2.Is (o : Op2) (w : World) : Prop where
  s : Ls w o.sa o.sn o.sc o.s
  t : Ls w o.ta o.tn o.tc o.t
  m : Lss w o.ma o.mn o.mc o.m
  nn : -9223372036854775808 ≤ o.nn ∧ o.nn ≤ 9223372036854775807
theorem Op2.Is.below {o : Op2} {w w' : World} (h : o.Is w) {B : Nat} (hb : Below B w w') (hB : w.heap.size ≤ B) : o.Is w' := ⟨h.s.below hb hB, h.t.below hb hB, h.m.below hb hB, h.nn⟩
def Op2.nil : Op2 := ⟨0, none, 0, 0, [], none, 0, 0, [], 0, none, 0, 0, []⟩
/-- A slice value reads as a list of calls. -/
structure Op2s (w : World) (ao : Option Addr) (n c : Nat) (os : Nat → Op2) : Prop where
  big : n * 8 ≤ 140737488351232
  cap : n ≤ c
  mem : 0 < n → ∃ b off, ao = some ⟨b, off, none⟩ ∧ b < w.heap.size ∧ ∀ i, i < n → ∀ j v, (os i).cells[j]? = some v → w.cell? ⟨b, off + (i * 5 + j), none⟩ = some v
  is : ∀ i, i < n → (os i).Is w
section
variable {H : Type} {enc : TypeId × Value → H} {W : World}
set_option maxRecDepth 100000 in
theorem lss_trod {fuel : Nat} {cs : List Value} {x : DataW H × List MemPlace} (hf : DataW.trod enc Try.prog W 0 (fun _ => true) true fuel 29 cs = some x) (hw : ∀ n ∈ x.1.weights Try.prog 29, n ≤ reachBytes) : ∃ ao n c zss, cs = [.slice ao n c] ∧ Lss W ao n c zss := by
  rcases open_slice Try.underlying29 hf with ⟨hcs, _⟩ | ⟨ad, l, c, m, nn, D, Pl, hcs, _, hl, hm, hmm, hx, hat⟩
  · subst hcs
    exact ⟨none, 0, 0, [], rfl, rfl, Nat.le_refl _, by simp, Nat.zero_le _, fun h => absurd h (by simp)⟩
  · subst hcs
    simp only [if_true] at hmm
    subst hmm
    rw [hx] at hw
    have hw2 : ∀ n ∈ (DataW.slice ((List.range l).map D) ((List.range (m - l)).map fun j => D (l + j))).weights Try.prog 29, n ≤ reachBytes := hw
    have hbig := hw2 ((l + (m - l)) * 24) (by simp [DataW.weights, Try.underlying29, show Try.prog.bytesOf 25 = 24 by kernel_rfl])
    have hel : ∀ i, i < l → ∀ n ∈ (D i).weights Try.prog 25, n ≤ reachBytes := by
      intro i hi n hn
      refine hw2 n ?_
      simp only [DataW.weights, Try.underlying29, List.mem_cons, List.mem_append]
      exact .inr (.inl (weightsAll_mem (d := D i) (by simp; exact ⟨i, hi, rfl⟩) n hn))
    have hC : Try.prog.cellsOf 25 = 1 := by kernel_rfl
    have cell : ∀ i, i < l → ∃ v : Value, W.cell? (ad.add i) = some v ∧ ∃ ao n c zs, v = .slice ao n c ∧ Ls W ao n c zs := by
      intro i hi
      obtain ⟨cs', hc, ht'⟩ := hat i (by omega)
      rw [hC, Nat.mul_one] at hc
      obtain ⟨_, hcl, hc1⟩ := World.cells?_some hc
      obtain ⟨ao, n, c, zs, e, hL⟩ := ls_trod (x := (D i, Pl i)) Try.underlying25 Try.underlying3 (by kernel_rfl) (by kernel_rfl) ht' (hel i hi)
      subst e
      have h1 := hc1 0 (by omega)
      rw [Deep.add_add] at h1
      exact ⟨_, by simpa using h1, ao, n, c, zs, rfl, hL⟩
    obtain ⟨b, off, spot⟩ := ad
    by_cases h0 : l = 0
    · subst h0
      exact ⟨_, 0, m, [], rfl, rfl, hl, by simp, hm, fun h => absurd h (by simp)⟩
    · obtain ⟨v0, hc0, _⟩ := cell 0 (by omega)
      have hspot : spot = none := by simpa [Addr.add] using World.cell?_spot hc0
      subst hspot
      have hlt : b < W.heap.size := by have := World.block_lt_of_cell? W _ hc0; simpa [Addr.add_lit] using this
      refine ⟨_, l, m, (List.range l).map fun i => lsOf W ((W.cell? (Addr.add ⟨b, off, none⟩ i)).getD (.slice none 0 0)), rfl, by simp, hl, ?_, hm, fun _ => ⟨b, off, rfl, hlt, fun i hi => ?_⟩⟩
      · unfold reachBytes at hbig; omega
      · obtain ⟨v, hv, hs⟩ := cell i hi
        obtain ⟨ao, n, c, e, hL⟩ := lsOf_spec hs
        refine ⟨ao, n, c, ?_, ?_⟩
        · rw [Addr.add_lit] at hv; rw [hv, e]
        · have : ((List.range l).map fun i => lsOf W ((W.cell? (Addr.add ⟨b, off, none⟩ i)).getD (.slice none 0 0))).getD i [] = lsOf W v := by
            simp [List.getD, hi, hv]
          rw [this]; exact hL
/-- The call that five cells read as. -/
noncomputable def op2Of (W : World) (b off : Nat) : Op2 :=
  open Classical in if h : ∃ o : Op2, (∀ j v, o.cells[j]? = some v → W.cell? ⟨b, off + j, none⟩ = some v) ∧ o.Is W then h.choose else Op2.nil
theorem op2Of_spec {W : World} {b off : Nat} (h : ∃ o : Op2, (∀ j v, o.cells[j]? = some v → W.cell? ⟨b, off + j, none⟩ = some v) ∧ o.Is W) :
    (∀ j v, (op2Of W b off).cells[j]? = some v → W.cell? ⟨b, off + j, none⟩ = some v) ∧ (op2Of W b off).Is W := by
  unfold op2Of; rw [dif_pos h]; exact h.choose_spec
set_option maxRecDepth 100000 in
theorem isOps2 {b0 : Nat} {v : Value} {d : DataW H} {p : List MemPlace} (h : DataW.Trod enc Try.prog W 0 (fun _ => true) true 22 v d p) (hv : Value.okWide Try.prog W .any b0 22 v)
    (hw : ∀ n ∈ d.weights Try.prog 22, n ≤ reachBytes) : ∃ ao n c os, v = .slice ao n c ∧ Op2s W ao n c os := by
  obtain ⟨a, l, c, rfl⟩ := okWide_slice Try.underlying22 hv
  obtain ⟨fuel, hf⟩ := h
  rcases open_slice Try.underlying22 hf with ⟨hcs, _⟩ | ⟨ad, l', c', m, nn, D, Pl, hcs, _, hl, hm, hmm, hx, hat⟩
  · simp [Value.cells] at hcs
    obtain ⟨rfl, rfl, rfl⟩ := hcs
    exact ⟨none, 0, 0, fun _ => Op2.nil, rfl, by omega, Nat.le_refl _, fun h => absurd h (by simp), fun i hi => absurd hi (by simp)⟩
  · simp [Value.cells] at hcs
    obtain ⟨rfl, rfl, rfl⟩ := hcs
    simp only [if_true] at hmm
    subst hmm
    simp only [Prod.mk.injEq] at hx
    obtain ⟨hd, _⟩ := hx
    subst hd
    have hw2 : ∀ n ∈ (DataW.slice ((List.range l).map D) ((List.range (m - l)).map fun j => D (l + j))).weights Try.prog 22, n ≤ reachBytes := hw
    have hbig := hw2 ((l + (m - l)) * 88) (by simp [DataW.weights, Try.underlying22, show Try.prog.bytesOf 37 = 88 by kernel_rfl])
    have hel : ∀ i, i < l → ∀ n ∈ (D i).weights Try.prog 37, n ≤ reachBytes := by
      intro i hi n hn
      refine hw2 n ?_
      simp only [DataW.weights, Try.underlying22, List.mem_cons, List.mem_append]
      exact .inr (.inl (weightsAll_mem (d := D i) (by simp; exact ⟨i, hi, rfl⟩) n hn))
    have hC : Try.prog.cellsOf 37 = 5 := by kernel_rfl
    have hC1 : Try.prog.cellsOf 3 = 1 := by kernel_rfl
    have hC0 : Try.prog.cellsOf 25 = 1 := by kernel_rfl
    have hC3 : Try.prog.cellsOf 29 = 1 := by kernel_rfl
    have cell : ∀ i, i < l → ∃ o : Op2, (∀ j v, o.cells[j]? = some v → W.cell? ((ad.add (i * 5)).add j) = some v) ∧ o.Is W := by
      intro i hi
      obtain ⟨cs', hc, ht'⟩ := hat i (by omega)
      rw [hC] at hc
      obtain ⟨_, hcl, hc1⟩ := World.cells?_some hc
      obtain ⟨xs, n', _, hx', _, hlen, hff⟩ := DataW.trod_struct Try.underlying37 ht'
      match cs', hcl with
      | [c0, c1, c2, c3, c4], _ =>
        match xs, hlen with
        | [y0, y1, y2, y3, y4], _ =>
          have h0 := hff 0 _ rfl
          have h1 := hff 1 _ rfl
          have h2 := hff 2 _ rfl
          have h3 := hff 3 _ rfl
          have h4 := hff 4 _ rfl
          simp [hC1, hC0, hC3] at h0 h1 h2 h3 h4
          simp only [Prod.mk.injEq] at hx'
          have hwi := hel i hi
          rw [hx'.1] at hwi
          simp only [DataW.weights, Try.underlying37, DataW.weightsEach, List.mem_append, List.map_cons, List.map_nil, List.append_nil] at hwi
          obtain ⟨k0, e0, _, _⟩ := DataW.trod_int Try.underlying3 h0
          obtain ⟨a1, n1, c1', s1, e1, L1⟩ := ls_trod Try.underlying25 Try.underlying3 (by kernel_rfl) (by kernel_rfl) h1 (fun n hn => hwi n (by simp [hn]))
          obtain ⟨a2, n2, c2', s2, e2, L2⟩ := ls_trod Try.underlying25 Try.underlying3 (by kernel_rfl) (by kernel_rfl) h2 (fun n hn => hwi n (by simp [hn]))
          obtain ⟨k3, e3, _, r3⟩ := DataW.trod_int Try.underlying3 h3
          obtain ⟨a4, n4, c4', s4, e4, L4⟩ := lss_trod h4 (fun n hn => hwi n (by simp [hn]))
          cases e0; cases e1; cases e2; cases e3; cases e4
          refine ⟨⟨k0, a1, n1, c1', s1, a2, n2, c2', s2, k3, a4, n4, c4', s4⟩, fun j v hj => ?_, ⟨L1, L2, L4, rng64w2 r3⟩⟩
          have hj7 : j < 5 := by
            rcases Nat.lt_or_ge j 5 with h | h
            · exact h
            · rw [Array.getElem?_eq_none (by simpa [Op2.cells] using h)] at hj; cases hj
          rw [hc1 j hj7, ← hj]
          simp [Op2.cells]
    obtain ⟨b, off, spot⟩ := ad
    by_cases h0 : l = 0
    · subst h0
      exact ⟨_, 0, m, fun _ => Op2.nil, rfl, by omega, Nat.zero_le _, fun h => absurd h (by simp), fun i hi => absurd hi (by simp)⟩
    · obtain ⟨o0, hc0, _⟩ := cell 0 (by omega)
      have hc00 := hc0 0 _ rfl
      have hspot : spot = none := by simpa [Addr.add] using World.cell?_spot hc00
      subst hspot
      have hlt : b < W.heap.size := by have := World.block_lt_of_cell? W _ hc00; simpa [Addr.add_lit] using this
      have sp : ∀ i, i < l → (∀ j v, (op2Of W b (off + i * 5)).cells[j]? = some v → W.cell? ⟨b, off + i * 5 + j, none⟩ = some v) ∧ (op2Of W b (off + i * 5)).Is W := by
        intro i hi
        apply op2Of_spec
        obtain ⟨o, h1, h2⟩ := cell i hi
        exact ⟨o, fun j v hj => by have := h1 j v hj; rwa [Addr.add_lit, Addr.add_lit] at this, h2⟩
      refine ⟨_, l, m, fun i => op2Of W b (off + i * 5), rfl, ?_, hl, fun _ => ⟨b, off, rfl, hlt, fun i hi j v hj => ?_⟩, fun i hi => (sp i hi).2⟩
      · unfold reachBytes at hbig; omega
      · rw [← Nat.add_assoc]; exact (sp i hi).1 j v hj
end
end Go.Proofs.Ytdedbfbkakofgaa

/- Arguments opened: slices of calls of layers 6, 7 and 8 (kind, verb, valence, two arrays). -/
import Derived.Test.YtoippfoeghjdoaaOpenSls
import Derived.Test.YtoippfoeghjdoaaMerge
namespace Go.Proofs.Ytoippfoeghjdoaa
open Go.ChangeShapes Go.WideShapes Go.ChangeAt Go.RowKit Go.Deep
set_option linter.unusedVariables false
set_option linter.unusedSimpArgs false
/-- One call of the layer: its kind, its verb, a number, two arrays. -/
structure Opv where
  (k op n : Int)
  (x y : Ar)
def Opv.cells (o : Opv) : Array Value := #[.int .i64 o.k, .int .i64 o.op, .int .i64 o.n, .slice o.x.sa o.x.sn o.x.sc, .slice o.x.aa o.x.an o.x.ac, .slice o.y.sa o.y.sn o.y.sc, .slice o.y.aa o.y.an o.y.ac]
/-- A slice value reads as a list of calls. -/
structure Ops (w : World) (ao : Option Addr) (n c : Nat) (os : Nat → Opv) : Prop where
  big : n * 8 ≤ 140737488351232
  cap : n ≤ c
  mem : 0 < n → ∃ b off, ao = some ⟨b, off, none⟩ ∧ b < w.heap.size ∧ ∀ i, i < n → ∀ j v, (os i).cells[j]? = some v → w.cell? ⟨b, off + (i * 7 + j), none⟩ = some v
  x : ∀ i, i < n → (os i).x.Is w
  y : ∀ i, i < n → (os i).y.Is w
section
variable {H : Type} {enc : TypeId × Value → H} {W : World}
/-- The call that seven cells read as. -/
noncomputable def opOf (W : World) (b off : Nat) : Opv :=
  open Classical in if h : ∃ o : Opv, (∀ j v, o.cells[j]? = some v → W.cell? ⟨b, off + j, none⟩ = some v) ∧ o.x.Is W ∧ o.y.Is W then h.choose else ⟨0, 0, 0, ⟨none, 0, 0, none, 0, 0, [], []⟩, ⟨none, 0, 0, none, 0, 0, [], []⟩⟩
theorem opOf_spec {W : World} {b off : Nat} (h : ∃ o : Opv, (∀ j v, o.cells[j]? = some v → W.cell? ⟨b, off + j, none⟩ = some v) ∧ o.x.Is W ∧ o.y.Is W) :
    (∀ j v, (opOf W b off).cells[j]? = some v → W.cell? ⟨b, off + j, none⟩ = some v) ∧ (opOf W b off).x.Is W ∧ (opOf W b off).y.Is W := by
  unfold opOf; rw [dif_pos h]; exact h.choose_spec
set_option maxRecDepth 100000 in
theorem isOps8 {b0 : Nat} {v : Value} {d : DataW H} {p : List MemPlace} (h : DataW.Trod enc Try.prog W 0 (fun _ => true) true 22 v d p) (hv : Value.okWide Try.prog W .any b0 22 v)
    (hw : ∀ n ∈ d.weights Try.prog 22, n ≤ reachBytes) : ∃ ao n c os, v = .slice ao n c ∧ Ops W ao n c os := by
  obtain ⟨a, l, c, rfl⟩ := okWide_slice Try.underlying22 hv
  obtain ⟨fuel, hf⟩ := h
  rcases open_slice Try.underlying22 hf with ⟨hcs, _⟩ | ⟨ad, l', c', m, nn, D, Pl, hcs, _, hl, hm, hmm, hx, hat⟩
  · simp [Value.cells] at hcs
    obtain ⟨rfl, rfl, rfl⟩ := hcs
    exact ⟨none, 0, 0, fun _ => ⟨0, 0, 0, ⟨none, 0, 0, none, 0, 0, [], []⟩, ⟨none, 0, 0, none, 0, 0, [], []⟩⟩, rfl, by omega, by omega, fun h => absurd h (by simp), fun i hi => absurd hi (by simp), fun i hi => absurd hi (by simp)⟩
  · simp [Value.cells] at hcs
    obtain ⟨rfl, rfl, rfl⟩ := hcs
    simp only [if_true] at hmm
    subst hmm
    simp only [Prod.mk.injEq] at hx
    obtain ⟨hd, _⟩ := hx
    subst hd
    have hw2 : ∀ n ∈ (DataW.slice ((List.range l).map D) ((List.range (m - l)).map fun j => D (l + j))).weights Try.prog 22, n ≤ reachBytes := hw
    have hbig := hw2 ((l + (m - l)) * 120) (by simp [DataW.weights, Try.underlying22, show Try.prog.bytesOf 40 = 120 by kernel_rfl])
    have hel : ∀ i, i < l → ∀ n ∈ (D i).weights Try.prog 40, n ≤ reachBytes := by
      intro i hi n hn
      refine hw2 n ?_
      simp only [DataW.weights, Try.underlying22, List.mem_cons, List.mem_append]
      exact .inr (.inl (weightsAll_mem (d := D i) (by simp; exact ⟨i, hi, rfl⟩) n hn))
    have hC : Try.prog.cellsOf 40 = 7 := by kernel_rfl
    have hC2 : Try.prog.cellsOf 38 = 2 := by kernel_rfl
    have hC1 : Try.prog.cellsOf 3 = 1 := by kernel_rfl
    have cell : ∀ i, i < l → ∃ o : Opv, (∀ j v, o.cells[j]? = some v → W.cell? ((ad.add (i * 7)).add j) = some v) ∧ o.x.Is W ∧ o.y.Is W := by
      intro i hi
      obtain ⟨cs', hc, ht'⟩ := hat i (by omega)
      rw [hC] at hc
      obtain ⟨_, hcl, hc1⟩ := World.cells?_some hc
      obtain ⟨xs, n', _, hx', _, hlen, hff⟩ := DataW.trod_struct Try.underlying40 ht'
      match cs', hcl with
      | [c0, c1, c2, c3, c4, c5, c6], _ =>
        match xs, hlen with
        | [y0, y1, y2, y3, y4], _ =>
          have h0 := hff 0 _ rfl
          have h1 := hff 1 _ rfl
          have h2 := hff 2 _ rfl
          have h3 := hff 3 _ rfl
          have h4 := hff 4 _ rfl
          simp [hC1, hC2] at h0 h1 h2 h3 h4
          simp only [Prod.mk.injEq] at hx'
          have hwi := hel i hi
          rw [hx'.1] at hwi
          simp only [DataW.weights, Try.underlying40, DataW.weightsEach, List.mem_append, List.map_cons, List.map_nil, List.append_nil] at hwi
          obtain ⟨k0, e0, _, _⟩ := DataW.trod_int Try.underlying3 h0
          obtain ⟨k1, e1, _, _⟩ := DataW.trod_int Try.underlying3 h1
          obtain ⟨k2, e2, _, _⟩ := DataW.trod_int Try.underlying3 h2
          obtain ⟨A3, e3, I3⟩ := ar_trod h3 (fun n hn => hwi n (by simp [hn]))
          obtain ⟨A4, e4, I4⟩ := ar_trod h4 (fun n hn => hwi n (by simp [hn]))
          cases e0; cases e1; cases e2; cases e3; cases e4
          refine ⟨⟨k0, k1, k2, A3, A4⟩, fun j v hj => ?_, I3, I4⟩
          have hj7 : j < 7 := by
            rcases Nat.lt_or_ge j 7 with h | h
            · exact h
            · rw [Array.getElem?_eq_none (by simpa [Opv.cells] using h)] at hj; cases hj
          rw [hc1 j hj7, ← hj]
          simp [Opv.cells]
    obtain ⟨b, off, spot⟩ := ad
    by_cases h0 : l = 0
    · subst h0
      exact ⟨_, 0, m, fun _ => ⟨0, 0, 0, ⟨none, 0, 0, none, 0, 0, [], []⟩, ⟨none, 0, 0, none, 0, 0, [], []⟩⟩, rfl, by omega, by omega, fun h => absurd h (by simp), fun i hi => absurd hi (by simp), fun i hi => absurd hi (by simp)⟩
    · obtain ⟨o0, hc0, _⟩ := cell 0 (by omega)
      have hc00 := hc0 0 _ rfl
      have hspot : spot = none := by simpa [Addr.add] using World.cell?_spot hc00
      subst hspot
      have hlt : b < W.heap.size := by have := World.block_lt_of_cell? W _ hc00; simpa [Addr.add_lit] using this
      have sp : ∀ i, i < l → (∀ j v, (opOf W b (off + i * 7)).cells[j]? = some v → W.cell? ⟨b, off + i * 7 + j, none⟩ = some v) ∧ (opOf W b (off + i * 7)).x.Is W ∧ (opOf W b (off + i * 7)).y.Is W := by
        intro i hi
        apply opOf_spec
        obtain ⟨o, h1, h2⟩ := cell i hi
        exact ⟨o, fun j v hj => by have := h1 j v hj; rwa [Addr.add_lit, Addr.add_lit] at this, h2⟩
      refine ⟨_, l, m, fun i => opOf W b (off + i * 7), rfl, ?_, by omega, fun _ => ⟨b, off, rfl, hlt, fun i hi j v hj => ?_⟩, fun i hi => (sp i hi).2.1, fun i hi => (sp i hi).2.2⟩
      · unfold reachBytes at hbig; omega
      · rw [← Nat.add_assoc]; exact (sp i hi).1 j v hj
end
end Go.Proofs.Ytoippfoeghjdoaa

/- Arguments opened: slices of calls of layer 5 (and of those of the same form). Arguments opened: slices of calls of layer 3. Contract of abacuslaw3.answered: the array that a call of layer 3 answers. -/
import Derived.Test.YtdedbfbkakofgaaArrFreshM17
import Derived.Test.YtdedbfbkakofgaaArrFreshM30
import Derived.Test.YtdedbfbkakofgaaArrFreshM12
import Derived.Test.YtdedbfbkakofgaaArrFreshM6
namespace Go.Proofs.Ytdedbfbkakofgaa
open Go.ChangeShapes Go.WideShapes Go.ChangeAt Go.RowKit Go.Deep
set_option linter.unusedVariables false
set_option linter.unusedSimpArgs false
/-- A slice value reads as a list of calls. -/
structure Ops (w : World) (ao : Option Addr) (n c : Nat) (os : Nat → Opv) : Prop where
  big : n * 8 ≤ 140737488351232
  mem : 0 < n → ∃ b off, ao = some ⟨b, off, none⟩ ∧ b < w.heap.size ∧ ∀ i, i < n → ∀ j v, (os i).cells[j]? = some v → w.cell? ⟨b, off + (i * 7 + j), none⟩ = some v
  x : ∀ i, i < n → (os i).x.Is w
  y : ∀ i, i < n → (os i).y.Is w
section
variable {H : Type} {enc : TypeId × Value → H} {W : World}
set_option maxRecDepth 100000 in
theorem ar_trod {fuel : Nat} {cs : List Value} {x : DataW H × List MemPlace} (h : DataW.trod enc Try.prog W 0 (fun _ => true) true fuel 55 cs = some x) (hw : ∀ n ∈ x.1.weights Try.prog 55, n ≤ reachBytes) :
    ∃ A : Ar, cs = [.slice A.sa A.sn A.sc, .slice A.aa A.an A.ac] ∧ A.Is W := by
  obtain ⟨xs, n, _, hx, hcl, hlen, hf⟩ := DataW.trod_struct Try.underlying55 h
  rw [show Try.prog.cellsOf 55 = 2 by kernel_rfl] at hcl
  match cs, hcl with
  | [c0, c1], _ =>
    match xs, hlen with
    | [y0, y1], _ =>
      have h0 := hf 0 _ rfl
      have h1 := hf 1 _ rfl
      simp [show Try.prog.cellsOf 25 = 1 by kernel_rfl, show Try.prog.cellsOf 50 = 1 by kernel_rfl] at h0 h1
      rw [hx] at hw
      simp only [DataW.weights, Try.underlying55, DataW.weightsEach, List.mem_append, List.map_cons, List.map_nil, List.append_nil] at hw
      obtain ⟨sa, sn, sc, s, e0, L0⟩ := ls_trod Try.underlying25 Try.underlying3 (by kernel_rfl) (by kernel_rfl) h0 (fun n hn => hw n (.inl hn))
      obtain ⟨aa, an, ac, a, e1, L1⟩ := ls_trod Try.underlying50 Try.underlying2 (by kernel_rfl) (by kernel_rfl) h1 (fun n hn => hw n (.inr hn))
      cases e0
      cases e1
      exact ⟨⟨sa, sn, sc, aa, an, ac, s, a⟩, rfl, L0, L1⟩
/-- The call that seven cells read as. -/
noncomputable def opOf (W : World) (b off : Nat) : Opv :=
  open Classical in if h : ∃ o : Opv, (∀ j v, o.cells[j]? = some v → W.cell? ⟨b, off + j, none⟩ = some v) ∧ o.x.Is W ∧ o.y.Is W then h.choose else ⟨0, 0, 0, ⟨none, 0, 0, none, 0, 0, [], []⟩, ⟨none, 0, 0, none, 0, 0, [], []⟩⟩
theorem opOf_spec {W : World} {b off : Nat} (h : ∃ o : Opv, (∀ j v, o.cells[j]? = some v → W.cell? ⟨b, off + j, none⟩ = some v) ∧ o.x.Is W ∧ o.y.Is W) :
    (∀ j v, (opOf W b off).cells[j]? = some v → W.cell? ⟨b, off + j, none⟩ = some v) ∧ (opOf W b off).x.Is W ∧ (opOf W b off).y.Is W := by
  unfold opOf; rw [dif_pos h]; exact h.choose_spec
set_option maxRecDepth 100000 in
theorem isOps5 {b0 : Nat} {v : Value} {d : DataW H} {p : List MemPlace} (h : DataW.Trod enc Try.prog W 0 (fun _ => true) true 73 v d p) (hv : Value.okWide Try.prog W .any b0 73 v)
    (hw : ∀ n ∈ d.weights Try.prog 73, n ≤ reachBytes) : ∃ ao n c os, v = .slice ao n c ∧ Ops W ao n c os := by
  obtain ⟨a, l, c, rfl⟩ := okWide_slice Try.underlying73 hv
  obtain ⟨fuel, hf⟩ := h
  rcases open_slice Try.underlying73 hf with ⟨hcs, _⟩ | ⟨ad, l', c', m, nn, D, Pl, hcs, _, hl, hm, hmm, hx, hat⟩
  · simp [Value.cells] at hcs
    obtain ⟨rfl, rfl, rfl⟩ := hcs
    exact ⟨none, 0, 0, fun _ => ⟨0, 0, 0, ⟨none, 0, 0, none, 0, 0, [], []⟩, ⟨none, 0, 0, none, 0, 0, [], []⟩⟩, rfl, by omega, fun h => absurd h (by simp), fun i hi => absurd hi (by simp), fun i hi => absurd hi (by simp)⟩
  · simp [Value.cells] at hcs
    obtain ⟨rfl, rfl, rfl⟩ := hcs
    simp only [if_true] at hmm
    subst hmm
    simp only [Prod.mk.injEq] at hx
    obtain ⟨hd, _⟩ := hx
    subst hd
    have hw2 : ∀ n ∈ (DataW.slice ((List.range l).map D) ((List.range (m - l)).map fun j => D (l + j))).weights Try.prog 73, n ≤ reachBytes := hw
    have hbig := hw2 ((l + (m - l)) * 120) (by simp [DataW.weights, Try.underlying73, show Try.prog.bytesOf 75 = 120 by kernel_rfl])
    have hel : ∀ i, i < l → ∀ n ∈ (D i).weights Try.prog 75, n ≤ reachBytes := by
      intro i hi n hn
      refine hw2 n ?_
      simp only [DataW.weights, Try.underlying73, List.mem_cons, List.mem_append]
      exact .inr (.inl (weightsAll_mem (d := D i) (by simp; exact ⟨i, hi, rfl⟩) n hn))
    have hC : Try.prog.cellsOf 75 = 7 := by kernel_rfl
    have hC2 : Try.prog.cellsOf 55 = 2 := by kernel_rfl
    have hC1 : Try.prog.cellsOf 3 = 1 := by kernel_rfl
    have cell : ∀ i, i < l → ∃ o : Opv, (∀ j v, o.cells[j]? = some v → W.cell? ((ad.add (i * 7)).add j) = some v) ∧ o.x.Is W ∧ o.y.Is W := by
      intro i hi
      obtain ⟨cs', hc, ht'⟩ := hat i (by omega)
      rw [hC] at hc
      obtain ⟨_, hcl, hc1⟩ := World.cells?_some hc
      obtain ⟨xs, n', _, hx', _, hlen, hff⟩ := DataW.trod_struct Try.underlying75 ht'
      match cs', hcl with
      | [c0, c1, c2, c3, c4, c5, c6], _ =>
        match xs, hlen with
        | [y0, y1, y2, y3, y4], _ =>
          have h0 := hff 0 _ rfl
          have h1 := hff 1 _ rfl
          have h2 := hff 2 _ rfl
          have h3 := hff 3 _ rfl
          have h4 := hff 4 _ rfl
          simp [hC1, hC2] at h0 h1 h2 h3 h4
          simp only [Prod.mk.injEq] at hx'
          have hwi := hel i hi
          rw [hx'.1] at hwi
          simp only [DataW.weights, Try.underlying75, DataW.weightsEach, List.mem_append, List.map_cons, List.map_nil, List.append_nil] at hwi
          obtain ⟨k0, e0, _, _⟩ := DataW.trod_int Try.underlying3 h0
          obtain ⟨k1, e1, _, _⟩ := DataW.trod_int Try.underlying3 h1
          obtain ⟨k2, e2, _, _⟩ := DataW.trod_int Try.underlying3 h2
          obtain ⟨A3, e3, I3⟩ := ar_trod h3 (fun n hn => hwi n (by simp [hn]))
          obtain ⟨A4, e4, I4⟩ := ar_trod h4 (fun n hn => hwi n (by simp [hn]))
          cases e0; cases e1; cases e2; cases e3; cases e4
          refine ⟨⟨k0, k1, k2, A3, A4⟩, fun j v hj => ?_, I3, I4⟩
          have hj7 : j < 7 := by
            rcases Nat.lt_or_ge j 7 with h | h
            · exact h
            · rw [Array.getElem?_eq_none (by simpa [Opv.cells] using h)] at hj; cases hj
          rw [hc1 j hj7, ← hj]
          simp [Opv.cells]
    obtain ⟨b, off, spot⟩ := ad
    by_cases h0 : l = 0
    · subst h0
      exact ⟨_, 0, m, fun _ => ⟨0, 0, 0, ⟨none, 0, 0, none, 0, 0, [], []⟩, ⟨none, 0, 0, none, 0, 0, [], []⟩⟩, rfl, by omega, fun h => absurd h (by simp), fun i hi => absurd hi (by simp), fun i hi => absurd hi (by simp)⟩
    · obtain ⟨o0, hc0, _⟩ := cell 0 (by omega)
      have hc00 := hc0 0 _ rfl
      have hspot : spot = none := by simpa [Addr.add] using World.cell?_spot hc00
      subst hspot
      have hlt : b < W.heap.size := by have := World.block_lt_of_cell? W _ hc00; simpa [Addr.add_lit] using this
      have sp : ∀ i, i < l → (∀ j v, (opOf W b (off + i * 7)).cells[j]? = some v → W.cell? ⟨b, off + i * 7 + j, none⟩ = some v) ∧ (opOf W b (off + i * 7)).x.Is W ∧ (opOf W b (off + i * 7)).y.Is W := by
        intro i hi
        apply opOf_spec
        obtain ⟨o, h1, h2⟩ := cell i hi
        exact ⟨o, fun j v hj => by have := h1 j v hj; rwa [Addr.add_lit, Addr.add_lit] at this, h2⟩
      refine ⟨_, l, m, fun i => opOf W b (off + i * 7), rfl, ?_, fun _ => ⟨b, off, rfl, hlt, fun i hi j v hj => ?_⟩, fun i hi => (sp i hi).2.1, fun i hi => (sp i hi).2.2⟩
      · unfold reachBytes at hbig; omega
      · rw [← Nat.add_assoc]; exact (sp i hi).1 j v hj
end
end Go.Proofs.Ytdedbfbkakofgaa

namespace Go.Proofs.Ytdedbfbkakofgaa
open Go.ChangeShapes Go.WideShapes Go.ChangeAt Go.RowKit Go.Deep
set_option linter.unusedVariables false
set_option linter.unusedSimpArgs false
theorem rng64w {a : Int} (h : (Lit.int .i64 a).wf = true) : -9223372036854775808 ≤ a ∧ a ≤ 9223372036854775807 := by
  simp [Lit.wf, IntKind.min, IntKind.max, IntKind.signed, IntKind.bits] at h; omega
/-- A call of layer 3. -/
structure Opw where
  k : Int
  x : Ar
  y : Ar
  nn : Int
  ii : Int
  ao : Option Addr
  n : Nat
  c : Nat
  ns : List Int
def Opw.cells (o : Opw) : Array Value := #[.int .i64 o.k, .slice o.x.sa o.x.sn o.x.sc, .slice o.x.aa o.x.an o.x.ac, .slice o.y.sa o.y.sn o.y.sc, .slice o.y.aa o.y.an o.y.ac, .int .i64 o.nn, .int .i64 o.ii, .slice o.ao o.n o.c]
structure Opw.Is (o : Opw) (w : World) : Prop where
  x : o.x.Is w
  y : o.y.Is w
  ns : Ls w o.ao o.n o.c o.ns
  nn : -9223372036854775808 ≤ o.nn ∧ o.nn ≤ 9223372036854775807
  ii : -9223372036854775808 ≤ o.ii ∧ o.ii ≤ 9223372036854775807
theorem Opw.Is.below {o : Opw} {w w' : World} (h : o.Is w) {B : Nat} (hb : Below B w w') (hB : w.heap.size ≤ B) : o.Is w' := ⟨h.x.below hb hB, h.y.below hb hB, h.ns.below hb hB, h.nn, h.ii⟩
def Opw.nil : Opw := ⟨0, ⟨none, 0, 0, none, 0, 0, [], []⟩, ⟨none, 0, 0, none, 0, 0, [], []⟩, 0, 0, none, 0, 0, []⟩
/-- A slice value reads as a list of calls. -/
structure Opws (w : World) (ao : Option Addr) (n c : Nat) (os : Nat → Opw) : Prop where
  big : n * 8 ≤ 140737488351232
  mem : 0 < n → ∃ b off, ao = some ⟨b, off, none⟩ ∧ b < w.heap.size ∧ ∀ i, i < n → ∀ j v, (os i).cells[j]? = some v → w.cell? ⟨b, off + (i * 8 + j), none⟩ = some v
  is : ∀ i, i < n → (os i).Is w
section
variable {H : Type} {enc : TypeId × Value → H} {W : World}
/-- The call that eight cells read as. -/
noncomputable def opwOf (W : World) (b off : Nat) : Opw :=
  open Classical in if h : ∃ o : Opw, (∀ j v, o.cells[j]? = some v → W.cell? ⟨b, off + j, none⟩ = some v) ∧ o.Is W then h.choose else Opw.nil
theorem opwOf_spec {W : World} {b off : Nat} (h : ∃ o : Opw, (∀ j v, o.cells[j]? = some v → W.cell? ⟨b, off + j, none⟩ = some v) ∧ o.Is W) :
    (∀ j v, (opwOf W b off).cells[j]? = some v → W.cell? ⟨b, off + j, none⟩ = some v) ∧ (opwOf W b off).Is W := by
  unfold opwOf; rw [dif_pos h]; exact h.choose_spec
set_option maxRecDepth 100000 in
theorem isOps3 {b0 : Nat} {v : Value} {d : DataW H} {p : List MemPlace} (h : DataW.Trod enc Try.prog W 0 (fun _ => true) true 48 v d p) (hv : Value.okWide Try.prog W .any b0 48 v)
    (hw : ∀ n ∈ d.weights Try.prog 48, n ≤ reachBytes) : ∃ ao n c os, v = .slice ao n c ∧ Opws W ao n c os := by
  obtain ⟨a, l, c, rfl⟩ := okWide_slice Try.underlying48 hv
  obtain ⟨fuel, hf⟩ := h
  rcases open_slice Try.underlying48 hf with ⟨hcs, _⟩ | ⟨ad, l', c', m, nn, D, Pl, hcs, _, hl, hm, hmm, hx, hat⟩
  · simp [Value.cells] at hcs
    obtain ⟨rfl, rfl, rfl⟩ := hcs
    exact ⟨none, 0, 0, fun _ => Opw.nil, rfl, by omega, fun h => absurd h (by simp), fun i hi => absurd hi (by simp)⟩
  · simp [Value.cells] at hcs
    obtain ⟨rfl, rfl, rfl⟩ := hcs
    simp only [if_true] at hmm
    subst hmm
    simp only [Prod.mk.injEq] at hx
    obtain ⟨hd, _⟩ := hx
    subst hd
    have hw2 : ∀ n ∈ (DataW.slice ((List.range l).map D) ((List.range (m - l)).map fun j => D (l + j))).weights Try.prog 48, n ≤ reachBytes := hw
    have hbig := hw2 ((l + (m - l)) * 144) (by simp [DataW.weights, Try.underlying48, show Try.prog.bytesOf 57 = 144 by kernel_rfl])
    have hel : ∀ i, i < l → ∀ n ∈ (D i).weights Try.prog 57, n ≤ reachBytes := by
      intro i hi n hn
      refine hw2 n ?_
      simp only [DataW.weights, Try.underlying48, List.mem_cons, List.mem_append]
      exact .inr (.inl (weightsAll_mem (d := D i) (by simp; exact ⟨i, hi, rfl⟩) n hn))
    have hC : Try.prog.cellsOf 57 = 8 := by kernel_rfl
    have hC2 : Try.prog.cellsOf 55 = 2 := by kernel_rfl
    have hC1 : Try.prog.cellsOf 3 = 1 := by kernel_rfl
    have hC0 : Try.prog.cellsOf 2 = 1 := by kernel_rfl
    have hC3 : Try.prog.cellsOf 50 = 1 := by kernel_rfl
    have cell : ∀ i, i < l → ∃ o : Opw, (∀ j v, o.cells[j]? = some v → W.cell? ((ad.add (i * 8)).add j) = some v) ∧ o.Is W := by
      intro i hi
      obtain ⟨cs', hc, ht'⟩ := hat i (by omega)
      rw [hC] at hc
      obtain ⟨_, hcl, hc1⟩ := World.cells?_some hc
      obtain ⟨xs, n', _, hx', _, hlen, hff⟩ := DataW.trod_struct Try.underlying57 ht'
      match cs', hcl with
      | [c0, c1, c2, c3, c4, c5, c6, c7], _ =>
        match xs, hlen with
        | [y0, y1, y2, y3, y4, y5], _ =>
          have h0 := hff 0 _ rfl
          have h1 := hff 1 _ rfl
          have h2 := hff 2 _ rfl
          have h3 := hff 3 _ rfl
          have h4 := hff 4 _ rfl
          have h5 := hff 5 _ rfl
          simp [hC1, hC2, hC0, hC3] at h0 h1 h2 h3 h4 h5
          simp only [Prod.mk.injEq] at hx'
          have hwi := hel i hi
          rw [hx'.1] at hwi
          simp only [DataW.weights, Try.underlying57, DataW.weightsEach, List.mem_append, List.map_cons, List.map_nil, List.append_nil] at hwi
          obtain ⟨k0, e0, _, _⟩ := DataW.trod_int Try.underlying3 h0
          obtain ⟨A1, e1, I1⟩ := ar_trod h1 (fun n hn => hwi n (by simp [hn]))
          obtain ⟨A2, e2, I2⟩ := ar_trod h2 (fun n hn => hwi n (by simp [hn]))
          obtain ⟨k3, e3, _, r3⟩ := DataW.trod_int Try.underlying2 h3
          obtain ⟨k4, e4, _, r4⟩ := DataW.trod_int Try.underlying3 h4
          obtain ⟨a5, n5, c5', s5, e5, L5⟩ := ls_trod Try.underlying50 Try.underlying2 (by kernel_rfl) (by kernel_rfl) h5 (fun n hn => hwi n (by simp [hn]))
          cases e0; cases e1; cases e2; cases e3; cases e4; cases e5
          refine ⟨⟨k0, A1, A2, k3, k4, a5, n5, c5', s5⟩, fun j v hj => ?_, ⟨I1, I2, L5, rng64w r3, rng64w r4⟩⟩
          have hj7 : j < 8 := by
            rcases Nat.lt_or_ge j 8 with h | h
            · exact h
            · rw [Array.getElem?_eq_none (by simpa [Opw.cells] using h)] at hj; cases hj
          rw [hc1 j hj7, ← hj]
          simp [Opw.cells]
    obtain ⟨b, off, spot⟩ := ad
    by_cases h0 : l = 0
    · subst h0
      exact ⟨_, 0, m, fun _ => Opw.nil, rfl, by omega, fun h => absurd h (by simp), fun i hi => absurd hi (by simp)⟩
    · obtain ⟨o0, hc0, _⟩ := cell 0 (by omega)
      have hc00 := hc0 0 _ rfl
      have hspot : spot = none := by simpa [Addr.add] using World.cell?_spot hc00
      subst hspot
      have hlt : b < W.heap.size := by have := World.block_lt_of_cell? W _ hc00; simpa [Addr.add_lit] using this
      have sp : ∀ i, i < l → (∀ j v, (opwOf W b (off + i * 8)).cells[j]? = some v → W.cell? ⟨b, off + i * 8 + j, none⟩ = some v) ∧ (opwOf W b (off + i * 8)).Is W := by
        intro i hi
        apply opwOf_spec
        obtain ⟨o, h1, h2⟩ := cell i hi
        exact ⟨o, fun j v hj => by have := h1 j v hj; rwa [Addr.add_lit, Addr.add_lit] at this, h2⟩
      refine ⟨_, l, m, fun i => opwOf W b (off + i * 8), rfl, ?_, fun _ => ⟨b, off, rfl, hlt, fun i hi j v hj => ?_⟩, fun i hi => (sp i hi).2⟩
      · unfold reachBytes at hbig; omega
      · rw [← Nat.add_assoc]; exact (sp i hi).1 j v hj
end
end Go.Proofs.Ytdedbfbkakofgaa

namespace Go.Proofs.Ytdedbfbkakofgaa
open Go.RowKit Go.Lib
set_option linter.unusedVariables false
set_option linter.unusedSimpArgs false
attribute [local go_sem] alloc_drewN setCell_drewN
/-- What is answered: lengths, atoms, and whether the call answers an array. -/
def ansE (k nn ii : Int) (s a ns : List Int) : List Int × List Int × Bool :=
  if k = 2 then ([], [nn], true)
  else if k = 3 then (if ns.length ≤ 4096 then ([(ns.length : Int)], ns, true) else ([], [], true))
  else if k = 4 then (if mayE s = 0 then (s, List.replicate (pr s).toNat nn, true) else ([], [], true))
  else if k = 7 then (if amE s a = 0 ∧ -(itE s a) ≤ ii ∧ ii < itE s a then (s.tail, itemA a (itJ ii (itE s a)) (pr s.tail).toNat, true) else ([], [], true))
  else ([], [], false)
/-- The call hands back an array of its own and a truth value. -/
def MadeB (w : World) (s a : List Int) (b : Bool) (e : Ending) (w' : World) : Prop :=
  ∃ B : Ar, e = .returned (.tuple #[B.v, .bool b]) ∧ B.Is w' ∧ B.s = s ∧ B.a = a ∧ B.Own w' w.heap.size ∧ Below w.heap.size w w'
theorem mb_end {w W w2 : World} {B : Ar} {bb : Nat} (hW : Below w.heap.size w W) (hbb : bb = w.heap.size + 1) (hsz : w.heap.size + 2 ≤ W.heap.size) (hI : B.Is w2) (hO : B.Own w2 W.heap.size) (hb : Below W.heap.size W w2) (f : Bool) (u v : Value) :
    MadeB w B.s B.a f (.returned (.tuple #[B.v, .bool f])) ((w2.setCell ⟨bb, 0, none⟩ u).setCell ⟨bb, 1, none⟩ v) := by
  have O1 := ownsRow_setCell_below (ownsRow_setCell_below hO.shp (a := ⟨bb, 0, none⟩) (by show bb < _; omega) u) (a := ⟨bb, 1, none⟩) (by show bb < _; omega) v
  have O2 := ownsRow_setCell_below (ownsRow_setCell_below hO.ats (a := ⟨bb, 0, none⟩) (by show bb < _; omega) u) (a := ⟨bb, 1, none⟩) (by show bb < _; omega) v
  refine ⟨B, rfl, ⟨ls_of_own O1 hI.shp.big hI.shp.rng, ls_of_own O2 hI.ats.big hI.ats.rng⟩, rfl, rfl, ⟨own_mono O1 (by omega), own_mono O2 (by omega), hO.two⟩, ?_⟩
  exact ((hW.trans (hb.mono (by omega))).setCell (by show _ ≤ bb; omega) _).setCell (by show _ ≤ bb; omega) _
theorem mb_end2 {w W w2 : World} {B : Ar} {bb : Nat} (hW : Below w.heap.size w W) (hbb : bb = w.heap.size + 1) (hsz : w.heap.size + 2 ≤ W.heap.size) (hI : B.Is w2) (hO : B.Own w2 W.heap.size) (hb : Below W.heap.size W w2) (f : Bool) (ob : Obj) (u v : Value) :
    MadeB w B.s B.a f (.returned (.tuple #[B.v, .bool f])) (((w2.alloc ob).setCell ⟨bb, 0, none⟩ u).setCell ⟨bb, 1, none⟩ v) := by
  obtain ⟨h1, h2⟩ := hO.out hI (F := fun _ => False) (.of (abal w2 ob)) (fun _ _ _ h => h)
  exact mb_end hW hbb hsz h2 h1 (abvia hb (abal _ _)) f u v
set_option maxRecDepth 100000 in
set_option maxHeartbeats 3200000 in
theorem answered3_any {w : World} {o : Opw} (hI : o.Is w) :
    Calls Try.prog 24 #[.agg o.cells] w (MadeB w (ansE o.k o.nn o.ii o.x.s o.x.a o.ns).1 (ansE o.k o.nn o.ii o.x.s o.x.a o.ns).2.1 (ansE o.k o.nn o.ii o.x.s o.x.a o.ns).2.2) := by
  obtain ⟨kk, X, Y, nn, ii, na, nl, nc, ns⟩ := o
  obtain ⟨sa, sn, sc, aa, an, ac, s, a⟩ := X
  obtain ⟨ta, tn, tc, ba, bn, bc, t, b'⟩ := Y
  simp only [Opw.cells]
  obtain ⟨hIX, -, hNS, hnn, hii⟩ := hI
  simp only at hIX hNS hnn hii
  obtain ⟨W, HW⟩ : ∃ z, Hid ((w.alloc (.cells #[.int .i64 kk, .slice sa sn sc, .slice aa an ac, .slice ta tn tc, .slice ba bn bc, .int .i64 nn, .int .i64 ii, .slice na nl nc] 57)).alloc (.cells #[.slice none 0 0, .slice none 0 0] 55) = z) := ⟨_, rfl⟩
  have hw : Below w.heap.size w W := by rw [← HW.out]; exact below_box2 _ _ _ _ _
  have hsz : W.heap.size = w.heap.size + 2 := by rw [← HW.out]; simp
  have BO : BoxN W w.heap.size #[.int .i64 kk, .slice sa sn sc, .slice aa an ac, .slice ta tn tc, .slice ba bn bc, .int .i64 nn, .int .i64 ii, .slice na nl nc] := by
    rw [← HW.out]; exact (BoxN.new w _ _).out (F := fun _ => False) (.of (abal _ _)) (fun h => h)
  have B1 : BoxA W (w.heap.size + 1) (.slice none 0 0) (.slice none 0 0) := by
    rw [← HW.out]; exact ⟨by simp [go_sem], by simp [go_sem], by simp [go_sem], by simp [go_sem], by simp⟩
  have p0 := BO.c 0 _ rfl
  have p1 := BO.c 1 _ rfl
  have p2 := BO.c 2 _ rfl
  have p5 := BO.c 5 _ rfl
  have p6 := BO.c 6 _ rfl
  have p7 := BO.c 7 _ rfl
  have HX := Lib.hid (hIX.below hw (Nat.le_refl _))
  have HNS := Lib.hid (hNS.below hw (Nat.le_refl _))
  have HWB := Lib.hid hw
  have SZ := Lib.hid hsz
  have HB1 := Lib.hid B1
  obtain ⟨x0, x1, x2, x3, -⟩ := B1
  clear hIX hNS hw hsz BO
  by_cases k2 : kk = 2
  · subst k2
    have CC := Lib.hid (scalar_any nn W hnn)
    have HE : Hid (ansE 2 nn ii s a ns = ([], [nn], true)) := rfl
    rw [HE.out]
    go_enter Try.func24, Try.ntmps24
    rw [← HW.out] at p0 p5
    go_wp2_with fail
    rw [HW.out]
    refine CC.out.mono ?_; rintro e w2 ⟨⟨sa1, sn1, sc1, aa1, an1, ac1, s1, a1⟩, rfl, hI1, hs1, ha1, hO1, hb1⟩
    simp only at hs1 ha1
    have hs1' := hs1.symm
    have ha1' := ha1.symm
    subst hs1' ha1'
    simp only [Ar.v]
    have HF : Hid (∀ u v, MadeB w [] [nn] true (.returned (.tuple #[.agg #[.slice sa1 sn1 sc1, .slice aa1 an1 ac1], .bool true])) ((w2.setCell ⟨w.heap.size + 1, 0, none⟩ u).setCell ⟨w.heap.size + 1, 1, none⟩ v)) := fun u v => mb_end HWB.out rfl (by have := SZ.out; omega) hI1 hO1 hb1 true u v
    obtain ⟨q0, q1, q2, q3, -⟩ := HB1.out.below hb1 HB1.out.lt
    clear hI1 hO1 hb1 p0 p1 p2 p5 p6 p7 x0 x1 x2 x3
    go_wp2
    exact bodyPost_ret (v := .tuple #[.agg #[.slice sa1 sn1 sc1, .slice aa1 an1 ac1], .bool true]) (by simp [results, Try.results24, go_sem, *]) rfl (HF.out _ _)
  by_cases k3 : kk = 3
  · subst k3
    obtain ⟨fs, fa, fe, HE, CC⟩ : ∃ fs fa fe, Hid (ansE 3 nn ii s a ns = (fs, fa, true)) ∧ Hid (Calls Try.prog 62 #[.slice na nl nc] W (MadeE W fs fa fe)) := by
      have hl := HNS.out.len
      by_cases h : nl ≤ 4096
      · refine ⟨[(nl : Int)], ns, 0, ?_, list_ok HNS.out h⟩
        show ansE 3 nn ii s a ns = _
        simp [ansE, hl, h]
      · refine ⟨[], [], 17, ?_, list_big HNS.out (by omega)⟩
        show ansE 3 nn ii s a ns = _
        simp [ansE, hl, h]
    rw [HE.out]
    go_enter Try.func24, Try.ntmps24
    rw [← HW.out] at p0 p7
    go_wp2_with fail
    rw [HW.out]
    refine CC.out.mono ?_; rintro e w2 ⟨⟨sa1, sn1, sc1, aa1, an1, ac1, s1, a1⟩, rfl, hI1, hs1, ha1, hO1, hb1⟩
    simp only at hs1 ha1
    have hs1' := hs1.symm
    have ha1' := ha1.symm
    subst hs1' ha1'
    simp only [Ar.v]
    have HF : Hid (∀ u v, MadeB w fs fa true (.returned (.tuple #[.agg #[.slice sa1 sn1 sc1, .slice aa1 an1 ac1], .bool true])) (((w2.alloc (.cells #[.slice sa1 sn1 sc1, .slice aa1 an1 ac1] 55)).setCell ⟨w.heap.size + 1, 0, none⟩ u).setCell ⟨w.heap.size + 1, 1, none⟩ v)) := fun u v => mb_end2 HWB.out rfl (by have := SZ.out; omega) hI1 hO1 hb1 true _ u v
    obtain ⟨q0, q1, q2, q3, -⟩ := HB1.out.below (abvia hb1 (abal w2 (.cells #[.slice sa1 sn1 sc1, .slice aa1 an1 ac1] 55))) HB1.out.lt
    clear hI1 hO1 hb1 p0 p1 p2 p5 p6 p7 x0 x1 x2 x3
    go_wp2
    exact bodyPost_ret (v := .tuple #[.agg #[.slice sa1 sn1 sc1, .slice aa1 an1 ac1], .bool true]) (by simp [results, Try.results24, go_sem, *]) rfl (HF.out _ _)
  by_cases k4 : kk = 4
  · subst k4
    obtain ⟨fs, fa, fe, HE, CC⟩ : ∃ fs fa fe, Hid (ansE 4 nn ii s a ns = (fs, fa, true)) ∧ Hid (Calls Try.prog 69 #[.slice sa sn sc, .int .i64 nn] W (MadeE W fs fa fe)) := by
      by_cases h : mayE s = 0
      · refine ⟨_, _, _, ?_, fill_ok HX.out.shp nn hnn h⟩
        show ansE 4 nn ii s a ns = _
        simp [ansE, h]
      · refine ⟨_, _, _, ?_, fill_bad HX.out.shp nn h⟩
        show ansE 4 nn ii s a ns = _
        simp [ansE, h]
    rw [HE.out]
    go_enter Try.func24, Try.ntmps24
    rw [← HW.out] at p0 p1 p5
    go_wp2_with fail
    rw [HW.out]
    refine CC.out.mono ?_; rintro e w2 ⟨⟨sa1, sn1, sc1, aa1, an1, ac1, s1, a1⟩, rfl, hI1, hs1, ha1, hO1, hb1⟩
    simp only at hs1 ha1
    have hs1' := hs1.symm
    have ha1' := ha1.symm
    subst hs1' ha1'
    simp only [Ar.v]
    have HF : Hid (∀ u v, MadeB w fs fa true (.returned (.tuple #[.agg #[.slice sa1 sn1 sc1, .slice aa1 an1 ac1], .bool true])) (((w2.alloc (.cells #[.slice sa1 sn1 sc1, .slice aa1 an1 ac1] 55)).setCell ⟨w.heap.size + 1, 0, none⟩ u).setCell ⟨w.heap.size + 1, 1, none⟩ v)) := fun u v => mb_end2 HWB.out rfl (by have := SZ.out; omega) hI1 hO1 hb1 true _ u v
    obtain ⟨q0, q1, q2, q3, -⟩ := HB1.out.below (abvia hb1 (abal w2 (.cells #[.slice sa1 sn1 sc1, .slice aa1 an1 ac1] 55))) HB1.out.lt
    clear hI1 hO1 hb1 p0 p1 p2 p5 p6 p7 x0 x1 x2 x3
    go_wp2
    exact bodyPost_ret (v := .tuple #[.agg #[.slice sa1 sn1 sc1, .slice aa1 an1 ac1], .bool true]) (by simp [results, Try.results24, go_sem, *]) rfl (HF.out _ _)
  by_cases k7 : kk = 7
  · subst k7
    obtain ⟨fs, fa, fe, HE, CC⟩ : ∃ fs fa fe, Hid (ansE 7 nn ii s a ns = (fs, fa, true)) ∧ Hid (Calls Try.prog 39 #[.agg #[.slice sa sn sc, .slice aa an ac], .int .i64 ii] W (MadeE W fs fa fe)) := by
      by_cases h : amE s a = 0
      · by_cases h1 : -(itE s a) ≤ ii
        · by_cases h2 : ii < itE s a
          · refine ⟨_, _, _, ?_, item_any HX.out ii h h1 h2⟩
            show ansE 7 nn ii s a ns = _
            simp [ansE, h, h1, h2]
          · refine ⟨_, _, _, ?_, item_index HX.out ii h (.inr (Int.not_lt.mp h2))⟩
            show ansE 7 nn ii s a ns = _
            simp [ansE, h2]
        · refine ⟨_, _, _, ?_, item_index HX.out ii h (.inl (Int.not_le.mp h1))⟩
          show ansE 7 nn ii s a ns = _
          simp only [ansE]
          rw [if_neg (by omega), if_neg (by omega), if_neg (by omega), if_pos trivial, if_neg (fun h => h1 h.2.1)]
      · refine ⟨_, _, _, ?_, item_bad HX.out ii h⟩
        show ansE 7 nn ii s a ns = _
        simp [ansE, h]
    rw [HE.out]
    go_enter Try.func24, Try.ntmps24
    rw [← HW.out] at p0 p1 p2 p6
    go_wp2_with fail
    rw [HW.out]
    refine CC.out.mono ?_; rintro e w2 ⟨⟨sa1, sn1, sc1, aa1, an1, ac1, s1, a1⟩, rfl, hI1, hs1, ha1, hO1, hb1⟩
    simp only at hs1 ha1
    have hs1' := hs1.symm
    have ha1' := ha1.symm
    subst hs1' ha1'
    simp only [Ar.v]
    have HF : Hid (∀ u v, MadeB w fs fa true (.returned (.tuple #[.agg #[.slice sa1 sn1 sc1, .slice aa1 an1 ac1], .bool true])) (((w2.alloc (.cells #[.slice sa1 sn1 sc1, .slice aa1 an1 ac1] 55)).setCell ⟨w.heap.size + 1, 0, none⟩ u).setCell ⟨w.heap.size + 1, 1, none⟩ v)) := fun u v => mb_end2 HWB.out rfl (by have := SZ.out; omega) hI1 hO1 hb1 true _ u v
    obtain ⟨q0, q1, q2, q3, -⟩ := HB1.out.below (abvia hb1 (abal w2 (.cells #[.slice sa1 sn1 sc1, .slice aa1 an1 ac1] 55))) HB1.out.lt
    clear hI1 hO1 hb1 p0 p1 p2 p5 p6 p7 x0 x1 x2 x3
    go_wp2
    exact bodyPost_ret (v := .tuple #[.agg #[.slice sa1 sn1 sc1, .slice aa1 an1 ac1], .bool true]) (by simp [results, Try.results24, go_sem, *]) rfl (HF.out _ _)
  have HE : Hid (ansE kk nn ii s a ns = ([], [], false)) := by show ansE _ _ _ _ _ _ = _; simp [ansE, k2, k3, k4, k7]
  rw [HE.out]
  have e2 : (kk == 2) = false := by simpa using k2
  have e3 : (kk == 3) = false := by simpa using k3
  have e4 : (kk == 4) = false := by simpa using k4
  have e7 : (kk == 7) = false := by simpa using k7
  have HF : Hid (MadeB w [] [] false (.returned (.tuple #[.agg #[.slice none 0 0, .slice none 0 0], .bool false])) W) := ⟨⟨none, 0, 0, none, 0, 0, [], []⟩, rfl, Ar.is_nil W, rfl, rfl, Ar.own_nil W _, HWB.out⟩
  clear k2 k3 k4 k7
  go_enter Try.func24, Try.ntmps24
  rw [← HW.out] at p0 x0 x1 x2 x3 HF
  go_wp2
  exact bodyPost_ret (v := .tuple #[.agg #[.slice none 0 0, .slice none 0 0], .bool false]) (by simp [results, Try.results24, go_sem, *]) rfl HF.out
end Go.Proofs.Ytdedbfbkakofgaa

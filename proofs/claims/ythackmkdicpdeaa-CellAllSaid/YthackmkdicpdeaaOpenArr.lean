/- Arguments opened: integers, slices of integers, arrays. -/
import Derived.Test.YthackmkdicpdeaaMem
import Derived.WalkKit
import Derived.ProofKit
import Derived.OpenShut
import Derived.ChangeOld
import Derived.SizedLaws
import Derived.Deep.Slices
import Derived.Deep.Fields
import Derived.ChangeSame
import Derived.Lib.SmallJoins
import Derived.Test.YthackmkdicpdeaaArrMay
namespace Go.Proofs.Ythackmkdicpdeaa
open Go.ChangeShapes Go.WideShapes Go.ChangeAt Go.RowKit Go.Deep
set_option linter.unusedVariables false
set_option linter.unusedSimpArgs false

theorem fr_own : ownKnob Try.prog.godebug = none := by kernel_rfl
theorem fr_laidOut : laidOutB Try.prog = true := by kernel_rfl
section
variable {H : Type} {enc : TypeId × Value → H} {W : World}
theorem wt_arg {ts : List TypeId} {ds : List (DataW H)} (h : (DataW.weightsEach Try.prog ts ds).all (· ≤ reachBytes) = true) (j : Nat) {t : TypeId} {d : DataW H} (ht : ts[j]? = some t) (hd : ds[j]? = some d) :
    ∀ n ∈ d.weights Try.prog t, n ≤ reachBytes := fun n hn => by
  have := List.all_eq_true.1 h _ (DataW.weights_mem_each ht hd n hn)
  simpa using this
theorem rng64' {a : Int} (h : (Lit.int .i64 a).wf = true) : -9223372036854775808 ≤ a ∧ a ≤ 9223372036854775807 := by
  simp [Lit.wf, IntKind.min, IntKind.max, IntKind.signed, IntKind.bits] at h; omega
/-- What a memory's cell holds as an integer. -/
def cellI (o : Option Value) : Int := match o with | some (.int .i64 v) => v | _ => 0
theorem ls_trod {T E : TypeId} {fuel : Nat} {cs : List Value} {x : DataW H × List MemPlace} (hT : Try.prog.underlying T = some (.slice E)) (hE : Try.prog.underlying E = some (.int .i64)) (hC : Try.prog.cellsOf E = 1) (hBy : Try.prog.bytesOf E = 8)
    (h : DataW.trod enc Try.prog W 0 (fun _ => true) true fuel T cs = some x) (hw : ∀ n ∈ x.1.weights Try.prog T, n ≤ reachBytes) : ∃ ao n c zs, cs = [.slice ao n c] ∧ Ls W ao n c zs := by
  rcases open_slice hT h with ⟨rfl, _⟩ | ⟨ad, l, c, m, nn, D, Pl, rfl, _, hl, hm, hmm, hx, hat⟩
  · exact ⟨none, 0, 0, [], rfl, rfl, Nat.le_refl _, by simp, Nat.zero_le _, fun h => absurd h (by simp), fun i => by simp [List.getD]⟩
  · simp only [if_true] at hmm
    subst hmm
    rw [hx] at hw
    have hbig := hw ((l + (m - l)) * 8) (by simp [DataW.weights, hT, hBy])
    have cell : ∀ i, i < m → ∃ v : Int, W.cell? (ad.add i) = some (.int .i64 v) ∧ (Lit.int .i64 v).wf = true := by
      intro i hi
      obtain ⟨cs', hc, ht'⟩ := hat i hi
      rw [hC] at hc
      obtain ⟨_, hcl, hc1⟩ := World.cells?_some hc
      obtain ⟨v, rfl, _, wv⟩ := DataW.trod_int hE ht'
      have h1 := hc1 0 (by omega)
      exact ⟨v, by rw [Deep.add_add] at h1; simpa using h1, wv⟩
    obtain ⟨b, off, spot⟩ := ad
    by_cases h0 : l = 0
    · subst h0
      exact ⟨_, 0, m, [], rfl, rfl, hl, by simp, hm, fun h => absurd h (by simp), fun i => by simp [List.getD]⟩
    · obtain ⟨v0, hc0, _⟩ := cell 0 (by omega)
      have hspot : spot = none := by simpa [Addr.add] using World.cell?_spot hc0
      subst hspot
      have hlt : b < W.heap.size := by have := World.block_lt_of_cell? W _ hc0; simpa [Addr.add_lit] using this
      have hg : ∀ i, i < l → ((List.range l).map fun i => cellI (W.cell? (Addr.add ⟨b, off, none⟩ i))).getD i 0 = cellI (W.cell? (Addr.add ⟨b, off, none⟩ i)) := by
        intro i hi
        simp [List.getD, hi]
      refine ⟨_, l, m, (List.range l).map fun i => cellI (W.cell? (Addr.add ⟨b, off, none⟩ i)), rfl, by simp, hl, ?_, hm, fun _ => ⟨b, off, rfl, hlt, fun i hi => ?_⟩, fun i => ?_⟩
      · unfold reachBytes at hbig; omega
      · rw [hg i hi]
        obtain ⟨v, hv, _⟩ := cell i (by omega)
        rw [hv]
        rw [Addr.add_lit] at hv
        exact hv
      · by_cases hi : i < l
        · rw [hg i hi]
          obtain ⟨v, hv, wv⟩ := cell i (by omega)
          rw [hv]
          exact rng64' wv
        · simp [List.getD, hi]
set_option maxRecDepth 100000 in
theorem isInt {b0 : Nat} {t : TypeId} {v : Value} {d : DataW H} {p : List MemPlace} (ht : Try.prog.underlying t = some (.int .i64)) (h : DataW.Trod enc Try.prog W 0 (fun _ => true) true t v d p) (hv : Value.okWide Try.prog W .any b0 t v) : ∃ x : Int, v = .int .i64 x ∧ (-9223372036854775808 ≤ x ∧ x ≤ 9223372036854775807) := by
  obtain ⟨n, rfl⟩ := okWide_int ht hv
  obtain ⟨fuel, hf⟩ := h
  obtain ⟨x, e0, _, wx⟩ := DataW.trod_int ht hf
  simp [Value.cells] at e0
  subst e0
  exact ⟨_, rfl, rng64' wx⟩
set_option maxRecDepth 100000 in
theorem isSl {T E : TypeId} {b0 : Nat} {v : Value} {d : DataW H} {p : List MemPlace} (hT : Try.prog.underlying T = some (.slice E)) (hE : Try.prog.underlying E = some (.int .i64)) (hC : Try.prog.cellsOf E = 1) (hBy : Try.prog.bytesOf E = 8)
    (h : DataW.Trod enc Try.prog W 0 (fun _ => true) true T v d p) (hv : Value.okWide Try.prog W .any b0 T v) (hw : ∀ n ∈ d.weights Try.prog T, n ≤ reachBytes) : ∃ ao n c zs, v = .slice ao n c ∧ Ls W ao n c zs := by
  obtain ⟨a, l, c, rfl⟩ := okWide_slice hT hv
  obtain ⟨fuel, hf⟩ := h
  obtain ⟨ao, n, c, zs, e, hL⟩ := ls_trod (x := (d, p)) hT hE hC hBy hf hw
  simp [Value.cells] at e
  obtain ⟨rfl, rfl, rfl⟩ := e
  exact ⟨_, _, _, zs, rfl, hL⟩
set_option maxRecDepth 100000 in
theorem isAr {b0 : Nat} {v : Value} {d : DataW H} {p : List MemPlace} (h : DataW.Trod enc Try.prog W 0 (fun _ => true) true 45 v d p) (hv : Value.okWide Try.prog W .any b0 45 v)
    (hw : ∀ n ∈ d.weights Try.prog 45, n ≤ reachBytes) : ∃ A : Ar, v = A.v ∧ A.Is W := by
  obtain ⟨c0, c1, y0, y1, m, rfl, rfl, rfl, hy0, hy1⟩ := Joins.open_agg2 Try.underlying45 (by kernel_rfl) (by kernel_rfl : Try.prog.cellsOf 45 = 2) hv h
  simp only [DataW.weights, Try.underlying45, DataW.weightsEach, List.mem_append, List.map_cons, List.map_nil, List.append_nil] at hw
  obtain ⟨sa, sn, sc, s, e0, L0⟩ := ls_trod Try.underlying25 Try.underlying3 (by kernel_rfl) (by kernel_rfl) hy0 (fun n hn => hw n (.inl hn))
  obtain ⟨aa, an, ac, a, e1, L1⟩ := ls_trod Try.underlying28 Try.underlying2 (by kernel_rfl) (by kernel_rfl) hy1 (fun n hn => hw n (.inr hn))
  cases e0
  cases e1
  exact ⟨⟨sa, sn, sc, aa, an, ac, s, a⟩, rfl, L0, L1⟩
set_option maxRecDepth 100000 in
theorem ar_trod {fuel : Nat} {cs : List Value} {x : DataW H × List MemPlace} (h : DataW.trod enc Try.prog W 0 (fun _ => true) true fuel 45 cs = some x) (hw : ∀ n ∈ x.1.weights Try.prog 45, n ≤ reachBytes) :
    ∃ A : Ar, cs = [.slice A.sa A.sn A.sc, .slice A.aa A.an A.ac] ∧ A.Is W := by
  obtain ⟨xs, n, _, hx, hcl, hlen, hf⟩ := DataW.trod_struct Try.underlying45 h
  rw [show Try.prog.cellsOf 45 = 2 by kernel_rfl] at hcl
  match cs, hcl with
  | [c0, c1], _ =>
    match xs, hlen with
    | [y0, y1], _ =>
      have h0 := hf 0 _ rfl
      have h1 := hf 1 _ rfl
      simp [show Try.prog.cellsOf 25 = 1 by kernel_rfl, show Try.prog.cellsOf 28 = 1 by kernel_rfl] at h0 h1
      rw [hx] at hw
      simp only [DataW.weights, Try.underlying45, DataW.weightsEach, List.mem_append, List.map_cons, List.map_nil, List.append_nil] at hw
      obtain ⟨sa, sn, sc, s, e0, L0⟩ := ls_trod Try.underlying25 Try.underlying3 (by kernel_rfl) (by kernel_rfl) h0 (fun n hn => hw n (.inl hn))
      obtain ⟨aa, an, ac, a, e1, L1⟩ := ls_trod Try.underlying28 Try.underlying2 (by kernel_rfl) (by kernel_rfl) h1 (fun n hn => hw n (.inr hn))
      cases e0
      cases e1
      exact ⟨⟨sa, sn, sc, aa, an, ac, s, a⟩, rfl, L0, L1⟩
end
end Go.Proofs.Ythackmkdicpdeaa

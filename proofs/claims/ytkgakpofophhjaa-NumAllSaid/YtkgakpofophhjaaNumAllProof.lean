/- NumAll: for every script of calls the statement's function returns true and the script reads afterwards as before; no condition. -/
import Derived.Test.YtkgakpofophhjaaRows
import Derived.WalkKit
import Derived.ProofKit
import Derived.OpenShut
import Derived.ChangeOld
import Derived.Test.YtkgakpofophhjaaNumAllWalk
import Derived.Test.YtkgakpofophhjaaOpenSlice
namespace Go.Proofs.Ytkgakpofophhjaa.numAll
open Go.ChangeShapes Go.WideShapes Go.ChangeAt Go.RowKit
set_option linter.unusedVariables false
set_option linter.unusedSimpArgs false

theorem own : ownKnob Try.prog.godebug = none := by kernel_rfl
theorem laidOut : laidOutB Try.prog = true := by kernel_rfl
theorem isOps {H : Type} {enc : TypeId × Value → H} {W : World} {a : Option Addr} {len cap : Nat} {d : DataW H} {p : List MemPlace}
    (h : DataW.Trod enc Try.prog W 0 (fun _ => true) true 22 (.slice a len cap) d p) : IsOps W a len := by
  obtain ⟨fuel, hf⟩ := h
  rcases open_slice_fields Try.underlying22 Try.underlying26 (by kernel_rfl) (by kernel_rfl) hf with ⟨hcs, _⟩ | ⟨ad, l, c, m, D, Pl, hcs, _, hl, hm, hmm, _, hat⟩
  · simp [Value.cells] at hcs
    obtain ⟨rfl, rfl, rfl⟩ := hcs
    exact ⟨by omega, fun h => absurd h (by omega)⟩
  · simp [Value.cells] at hcs
    obtain ⟨rfl, rfl, rfl⟩ := hcs
    simp only [if_true] at hmm
    have hml : len ≤ m := by omega
    refine ⟨by unfold maxLen at hm; omega, fun h0 => ?_⟩
    have cell : ∀ i, i < len → ∀ j, j < 4 → ∃ v : Int, W.cell? (ad.add (i * 4 + j)) = some (.int .i64 v) ∧ (Lit.int .i64 v).wf = true := by
      intro i hi j hj
      obtain ⟨ys, n, _, _, _, hf⟩ := hat i (by omega)
      match j, hj with
      | 0, _ =>
        obtain ⟨v, y, hc, _, ht⟩ := hf 0 _ rfl
        obtain ⟨x, e0, _, wx⟩ := DataW.trod_int Try.underlying3 ht
        simp at e0; subst e0
        exact ⟨x, hc, wx⟩
      | 1, _ =>
        obtain ⟨v, y, hc, _, ht⟩ := hf 1 _ rfl
        obtain ⟨x, e0, _, wx⟩ := DataW.trod_int Try.underlying3 ht
        simp at e0; subst e0
        exact ⟨x, hc, wx⟩
      | 2, _ =>
        obtain ⟨v, y, hc, _, ht⟩ := hf 2 _ rfl
        obtain ⟨x, e0, _, wx⟩ := DataW.trod_int Try.underlying2 ht
        simp at e0; subst e0
        exact ⟨x, hc, wx⟩
      | 3, _ =>
        obtain ⟨v, y, hc, _, ht⟩ := hf 3 _ rfl
        obtain ⟨x, e0, _, wx⟩ := DataW.trod_int Try.underlying2 ht
        simp at e0; subst e0
        exact ⟨x, hc, wx⟩
    obtain ⟨b, off, spot⟩ := ad
    obtain ⟨v0, hc0, _⟩ := cell 0 h0 0 (by omega)
    have hspot : spot = none := by simpa [Addr.add] using World.cell?_spot hc0
    subst hspot
    have hlt : b < W.heap.size := by have := World.block_lt_of_cell? W _ hc0; simpa [Addr.add_lit] using this
    refine ⟨b, off, rfl, hlt, fun i hi => ?_⟩
    obtain ⟨k, h1, _⟩ := cell i hi 0 (by omega)
    obtain ⟨op, h2, _⟩ := cell i hi 1 (by omega)
    obtain ⟨x, h3, w3⟩ := cell i hi 2 (by omega)
    obtain ⟨y, h4, w4⟩ := cell i hi 3 (by omega)
    rw [Addr.add_lit] at h1 h2 h3 h4
    exact ⟨k, op, x, y, h1, by rw [Nat.add_assoc]; exact h2, by rw [Nat.add_assoc]; exact h3, by rw [Nat.add_assoc]; exact h4, rng64 w3, rng64 w4⟩

set_option maxRecDepth 100000 in
theorem lifted (os : Os) (started : os.Started) (H : Type) (enc : TypeId × Value → H) :
    ReturnsInHanded {} Try.checked os 3 .any (Rows.numAllSpec.pre6 enc Try.prog Try.f3 Rows.numAllRow.domain false) (Rows.numAllSpec.post enc Try.prog Try.f3 false true false false) := by
  refine returnsInHanded_of_change (C := Try.checked) own started (by kernel_rfl) Try.func3
    (ChangeSpec.witness6 (enc := enc) (C := Try.checked) false ⟨#[], #[.slice none 0 0], []⟩ 8 (by kernel_rfl) (by kernel_rfl) (by kernel_rfl) (by kernel_rfl)) ?_
  intro W base args ds gs before hval0 hW hcnd _
  have hval : ∀ (j : Nat) t v, Try.f3.params[j]? = some t → args[j]? = some v → Value.okWide Try.prog W .any base t v := hval0
  have hW' := hW
  obtain ⟨p, q, hA0, hV, rfl, hfz, hnd⟩ := hW
  have hA : DataW.TrodAll enc Try.prog W 0 (fun _ => true) true Try.f3.params.toList args.toList ds p := hA0
  rw [Try.params3] at hA hval
  obtain ⟨v0, vs0, d0, ds0, p0, q0, hargs, rfl, rfl, h0, r0⟩ := trodAll_cons hA
  obtain ⟨rfl, rfl, rfl⟩ := trodAll_nil r0
  obtain rfl : args = #[v0] := by cases args; simp_all
  obtain ⟨rfl, rfl⟩ := trodVars_none hV
  obtain ⟨a0, len0, cap0, rfl⟩ := okWide_slice Try.underlying22 (hval 0 22 v0 rfl rfl)
  have k0 := h0
  have lt0 : ∀ x ∈ p0, x.block < W.heap.size := by obtain ⟨m, hm⟩ := k0; exact DataW.trod_lt m _ _ _ hm
  have w0 := isOps h0
  clear hA0 hval0
  refine (walkNumAll a0 len0 cap0 W w0).mono fun e W' ⟨he, bel⟩ => ?_
  subst he
  exact ⟨_, rfl, _, _, _, [], _, [], hW', trodAll_mk1 (shut_bool Try.underlying4 _), (trodAll_cons_mk (Below.trod laidOut (by kernel_rfl) (of_decide_eq_true (by kernel_rfl)) k0 bel lt0) trodAll_mk0), rfl, bel.frame _, fun h => by cases h⟩

theorem over : Rows.numAllRow.holds Try.pinned (OpenSpec.ofChange Rows.numAllSpec) :=
  OpenClaim.holds_of_wide 3 Try.f3 rfl rfl rfl rfl rfl rfl rfl ⟨rfl, rfl, rfl, rfl, rfl⟩ rfl rfl rfl rfl rfl (by kernel_rfl) Try.func3 (by kernel_rfl)
    (of_decide_eq_true (by kernel_rfl)) (by unfold Func.isWrapper; first | (rw [if_pos (by decide +kernel)]; kernel_rfl) | (rw [if_neg (by decide +kernel)]; exact ⟨rfl, rfl⟩))
    (fun os started H enc _ => lifted os started H enc)

theorem proved : Rows.NumAllSaid := over
end Go.Proofs.Ytkgakpofophhjaa.numAll

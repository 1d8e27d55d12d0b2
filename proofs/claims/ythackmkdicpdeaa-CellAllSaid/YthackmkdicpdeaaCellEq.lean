/- Contract of abacuslaw4's EqPieces. -/
import Derived.Test.YthackmkdicpdeaaEqAll
import Derived.Test.YthackmkdicpdeaaCellOne
import Derived.Test.YthackmkdicpdeaaCellPart
import Derived.Test.YthackmkdicpdeaaShapeCover
import Derived.Laws.StructEq
namespace Go.Proofs.Ythackmkdicpdeaa
open Go.RowKit Go.Lib
set_option linter.unusedVariables false
set_option linter.unusedSimpArgs false
attribute [local go_sem] alloc_drewN setCell_drewN
theorem neq_piece (x1 x2 y1 y2 : Int) (w : World) : (binOp .neq 93 (.agg #[.int .i64 x1, .int .i64 x2]) (.agg #[.int .i64 y1, .int .i64 y2])).run Try.prog w = .ok (.bool (!((x1 == y1) && (x2 == y2)))) w := by
  rw [run_neq_struct, run_equalIn_agg w _ 93 _ _ (by kernel_rfl) (by kernel_rfl)]
  simp only [Program.fieldsOf, Try.underlying93]
  simp [Op.eqFields, go_sem, Try.underlying3]
  by_cases h1 : x1 = y1 <;> by_cases h2 : x2 = y2 <;> simp [h1, h2]
/-- Pieces that are read. -/
structure Pcs (w : World) (ao : Option Addr) (n c : Nat) (l : List (Int × Int)) : Prop where
  len : l.length = n
  cap : n ≤ c
  top : c ≤ maxLen
  mem : 0 < n → ∃ b off, ao = some ⟨b, off, none⟩ ∧ b < w.heap.size ∧ ∀ (i : Nat) (x : Int × Int), l[i]? = some x → w.cell? ⟨b, off + i * 2, none⟩ = some (.int .i64 x.1) ∧ w.cell? ⟨b, off + i * 2 + 1, none⟩ = some (.int .i64 x.2)
theorem Pcs.below {w w' : World} {ao : Option Addr} {n c : Nat} {l : List (Int × Int)} (h : Pcs w ao n c l) {B : Nat} (hb : Below B w w') (hB : w.heap.size ≤ B) : Pcs w' ao n c l :=
  ⟨h.len, h.cap, h.top, fun h0 => by
    obtain ⟨b, off, e, hlt, hc⟩ := h.mem h0
    refine ⟨b, off, e, Nat.lt_of_lt_of_le hlt hb.size, fun i A hA => ?_⟩
    obtain ⟨h1, h2⟩ := hc i A hA
    exact ⟨(hb.cell (p := ⟨b, off + i * 2, none⟩) (by dsimp only; omega)).trans h1, (hb.cell (p := ⟨b, off + i * 2 + 1, none⟩) (by dsimp only; omega)).trans h2⟩⟩
theorem cellsP_at : ∀ {l : List (Int × Int)} {k : Nat} {x : Int × Int}, l[k]? = some x → (cellsP l)[k * 2]? = some (.int .i64 x.1) ∧ (cellsP l)[k * 2 + 1]? = some (.int .i64 x.2)
  | [], k, x, h => by simp at h
  | y :: r, 0, x, h => by simp at h; subst h; exact ⟨rfl, rfl⟩
  | y :: r, k + 1, x, h => by
    have h' := cellsP_at (l := r) (k := k) (x := x) (by simpa using h)
    have e : cellsP (y :: r) = [.int .i64 y.1, .int .i64 y.2] ++ cellsP r := rfl
    rw [e, List.getElem?_append_right (by simp; omega), List.getElem?_append_right (by simp; omega)]
    simpa [Nat.succ_mul] using h'
theorem Sp.pcs {F0 : Nat → Prop} {w0 w : World} {L : List Pt} {i : Nat} (H : Sp F0 w0 w L) {ao : Option Addr} {n c : Nat} {l : List (Int × Int)} (e : L[i]? = some (Pt.row ⟨93, 2, ao, n, c, cellsP l⟩)) (hl : l.length = n) : Pcs w ao n c l := by
  obtain ⟨c1, c2, c3, c4, c5⟩ := H.rcap e
  refine ⟨hl, c1, c2, fun h0 => ?_⟩
  obtain ⟨g, rfl⟩ := c5 (by omega)
  refine ⟨g, 0, rfl, (H.rlt e).1, fun k A hA => ?_⟩
  obtain ⟨q1, q2⟩ := cellsP_at hA
  rw [Nat.zero_add]
  exact ⟨H.cell e _ _ q1, H.cell e _ _ q2⟩
set_option maxRecDepth 100000 in
set_option maxHeartbeats 1600000 in
theorem eqpieces4_any {w : World} {ao bo : Option Addr} {n c m d : Nat} {l r : List (Int × Int)} (hA : Pcs w ao n c l) (hB : Pcs w bo m d r) : Calls Try.prog 29 #[.slice ao n c, .slice bo m d] w (RetB w (.bool (decide (l = r)))) := by
  have hl1 := hA.len
  have hl2 := hB.len
  have ht := hA.top
  have hc := hA.cap
  unfold maxLen at ht
  obtain ⟨R, HR⟩ : ∃ z, Hid (decide (l = r) = z) := ⟨_, rfl⟩
  rw [HR.out]
  have HA := Lib.hid hA
  have HB := Lib.hid hB
  by_cases hnm : n = m
  · subst hnm
    have HLL := Lib.hid (And.intro hl1 hl2)
    clear hA hB hl1 hl2
    go_enter Try.func29, Try.ntmps29
    go_wp2_with fail
    go_loopw [5] (fun v wr => ∃ k : Nat, k ≤ n ∧ v = .int .i64 k ∧ Hid ((∀ i, i < k → l[i]? = r[i]?) ∧ Below w.heap.size w wr)) (fun v _ => n - (RowKit.intOf v).toNat)
    case atStart => exact ⟨0, by omega, rfl, ⟨fun i hi => absurd hi (by omega), Below.refl _ _⟩⟩
    case round =>
      obtain ⟨k, hk, rfl, HO⟩ := hrel
      by_cases hlt : k < n
      · obtain ⟨⟨x1, x2⟩, hAi⟩ : ∃ B, l[k]? = some B := ⟨l[k]'(by have := HLL.out.1; omega), List.getElem?_eq_getElem _⟩
        obtain ⟨⟨y1, y2⟩, hBi⟩ : ∃ B, r[k]? = some B := ⟨r[k]'(by have := HLL.out.2; omega), List.getElem?_eq_getElem _⟩
        have hbw : Below w.heap.size w wr := HO.out.2
        obtain ⟨g1, o1, q1, l1, c1⟩ := HA.out.mem (by omega)
        obtain ⟨g2, o2, q2, l2, c2⟩ := HB.out.mem (by omega)
        subst q1 q2
        have a0 : wr.cell? ⟨g1, o1 + k * 2, none⟩ = _ := (hbw.cell (p := ⟨g1, o1 + k * 2, none⟩) l1).trans (c1 k _ hAi).1
        have a1 : wr.cell? ⟨g1, o1 + k * 2 + 1, none⟩ = _ := (hbw.cell (p := ⟨g1, o1 + k * 2 + 1, none⟩) l1).trans (c1 k _ hAi).2
        have b0 : wr.cell? ⟨g2, o2 + k * 2, none⟩ = _ := (hbw.cell (p := ⟨g2, o2 + k * 2, none⟩) l2).trans (c2 k _ hBi).1
        have b1 : wr.cell? ⟨g2, o2 + k * 2 + 1, none⟩ = _ := (hbw.cell (p := ⟨g2, o2 + k * 2 + 1, none⟩) l2).trans (c2 k _ hBi).2
        simp only at a0 a1 b0 b1
        have hlt' : (k : Int) < n := by omega
        have HAB := Lib.hid (And.intro hAi hBi)
        have HBW := Lib.hid hbw
        clear hAi hBi hbw c1 c2 l1 l2
        by_cases he : x1 = y1 ∧ x2 = y2
        · have hq : ∀ w, (binOp .neq 93 (.agg #[.int .i64 x1, .int .i64 x2]) (.agg #[.int .i64 y1, .int .i64 y2])).run Try.prog w = .ok (.bool false) w := fun w => by rw [neq_piece]; simp [he.1, he.2]
          have HN : Hid (∀ i, i < k + 1 → l[i]? = r[i]?) := by
            intro i hi
            by_cases e : i = k
            · subst e; rw [HAB.out.1, HAB.out.2, he.1, he.2]
            · exact HO.out.1 i (by omega)
          clear he
          go_wp2_with fail
          go_quiet (fail)
          go_wp2
          go_roundw
          case rel => exact ⟨k + 1, by omega, by go_num, ⟨HN.out, HBW.out.trans ((adrew _ _).mono HBW.out.size)⟩⟩
          case measure => simp [RowKit.intOf]; omega
        · have hq : ∀ w, (binOp .neq 93 (.agg #[.int .i64 x1, .int .i64 x2]) (.agg #[.int .i64 y1, .int .i64 y2])).run Try.prog w = .ok (.bool true) w := fun w => by rw [neq_piece]; simp only [Result.ok.injEq, Value.bool.injEq, and_true, Bool.not_eq_true', Bool.and_eq_false_iff, beq_eq_false_iff_ne]; omega
          have hR : R = false := by
            rw [← HR.out]
            simp only [decide_eq_false_iff_not]
            intro h
            have e := HAB.out.1
            rw [h, HAB.out.2] at e
            cases e
            exact he ⟨rfl, rfl⟩
          subst hR
          clear he
          go_wp2_with fail
          go_quiet (fail)
          have HF := Lib.hid (RetB.mk (w := w) (v := .bool false) (v' := .bool false) rfl (HBW.out.trans ((adrew wr nq).mono HBW.out.size)))
          go_wp2
          go_ret
          exact HF.out
      · have hge : ¬ ((k : Int) < n) := by omega
        obtain rfl : k = n := by omega
        have hR : R = true := by
          rw [← HR.out]
          refine decide_eq_true (List.ext_getElem? fun i => ?_)
          by_cases hi : i < k
          · exact HO.out.1 i hi
          · rw [List.getElem?_eq_none (by have := HLL.out.1; omega), List.getElem?_eq_none (by have := HLL.out.2; omega)]
        subst hR
        have HF := Lib.hid (RetB.mk (w := w) (v := .bool true) (v' := .bool true) rfl HO.out.2)
        go_wp2
        go_ret
        exact HF.out
  · have hR : R = false := by
      rw [← HR.out]
      simp only [decide_eq_false_iff_not]
      intro h
      have := congrArg List.length h
      omega
    subst hR
    have q0 : ((n : Int) != m) = true := by simp; omega
    have q1 : (n != m) = true := by simp; omega
    clear hA hB hl1 hl2 hnm
    go_enter Try.func29, Try.ntmps29
    go_wp2
    go_ret
    exact RetB.mk rfl (Below.refl _ _)
end Go.Proofs.Ythackmkdicpdeaa

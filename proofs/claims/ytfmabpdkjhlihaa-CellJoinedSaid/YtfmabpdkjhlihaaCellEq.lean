/- Contracts of abacuslaw4's EqAtoms, Eq, EqAll, EqPieces. Contract of abacuslaw4's EqPieces. -/
import Derived.Test.YtfmabpdkjhlihaaCellOne
import Derived.Test.YtfmabpdkjhlihaaCellPart
import Derived.Test.YtfmabpdkjhlihaaShapePlace
import Derived.Laws.StructEq
namespace Go.Proofs.Ytfmabpdkjhlihaa
open Go.RowKit Go.Lib
set_option linter.unusedVariables false
set_option linter.unusedSimpArgs false
attribute [local go_sem] alloc_drewN setCell_drewN
set_option maxHeartbeats 800000 in
theorem eqatoms4_any {w : World} {a1 a2 : Option Addr} {n1 c1 n2 c2 : Nat} {s t : List Int} (h1 : Ls w a1 n1 c1 s) (h2 : Ls w a2 n2 c2 t) :
    Calls Try.prog 17 #[.slice a1 n1 c1, .slice a2 n2 c2] w (Ret w (.bool (decide (s = t)))) := by
  have l1 := h1.len
  have l2 := h2.len
  have g1 := h1.big
  obtain ⟨r, HR⟩ : ∃ r, Hid (decide (s = t) = r) := ⟨_, rfl⟩
  rw [HR.out]
  by_cases hst : ¬ n1 = n2
  · have hr : Hid (r = false) := by
      show r = false
      rw [← HR.out]; simp only [decide_eq_false_iff_not]
      rintro rfl; omega
    have hne : ((n1 : Int) != n2) = true := by simp; omega
    have hne' : (n1 != n2) = true := by simp; omega
    clear l1 l2 h1 h2 hst
    go_enter Try.func17, Try.ntmps17
    go_wp2
    go_ret
    exact Ret.mk0 (boolv hr.out.symm)
  have hst' : n1 = n2 := by omega
  subst hst'
  have H1 := Lib.hid h1
  have H2 := Lib.hid h2
  have L1 := Lib.hid l1
  have L2 := Lib.hid l2
  have q1 : ((n1 : Int) != n1) = false := by simp
  clear h1 h2 l1 l2 hst
  go_enter Try.func17, Try.ntmps17
  go_wp2
  clear q1
  go_loopw [5] (fun i wr => ∃ k : Nat, k ≤ n1 ∧ i = .int .i64 k ∧ Hid (∀ j, j < k → s.getD j 0 = t.getD j 0) ∧ ∃ q, wr = w.drewN q) (fun i _ => n1 - (RowKit.intOf i).toNat)
  case atStart => exact ⟨0, Nat.zero_le _, rfl, fun j hj => absurd hj (by omega), 0, rfl⟩
  case round =>
    obtain ⟨k, hk, rfl, hs, q, rfl⟩ := hrel
    by_cases hlt : k < n1
    · have hlt' : (k : Int) < n1 := by omega
      obtain ⟨b1, o1, rfl, hc1⟩ := H1.out.at (by omega)
      obtain ⟨b2, o2, rfl, hc2⟩ := H2.out.at (by omega)
      have d1 := hc1 k hlt
      have d2 := hc2 k hlt
      clear hc1 hc2
      obtain ⟨x, HX⟩ : ∃ x, Hid (s.getD k 0 = x) := ⟨_, rfl⟩
      obtain ⟨y, HY⟩ : ∃ y, Hid (t.getD k 0 = y) := ⟨_, rfl⟩
      rw [HX.out] at d1
      rw [HY.out] at d2
      by_cases hxy : x = y
      · subst hxy
        have hs' : Hid (∀ j, j < k + 1 → s.getD j 0 = t.getD j 0) := by
          intro j hj
          by_cases e : j = k
          · subst e; rw [HX.out, HY.out]
          · exact hs.out j (by omega)
        go_wp2
        go_quiet (fail)
        go_wp2
        go_roundw
        case rel => exact ⟨k + 1, by omega, by go_num, hs', _, rfl⟩
        case measure => simp [RowKit.intOf]; omega
      · have hne : (x != y) = true := by simpa using hxy
        have hr : Hid (r = false) := by
          show r = false
          rw [← HR.out]
          simp only [decide_eq_false_iff_not]
          intro h
          exact hxy (by rw [← HX.out, ← HY.out, h])
        go_wp2
        go_quiet (fail)
        go_wp2
        go_ret
        exact ⟨congrArg Ending.returned (boolv hr.out.symm), _, World.drewN_drewN _ _ _⟩
    · have hr : Hid (r = true) := by
        show r = true
        rw [← HR.out]
        simp only [decide_eq_true_eq]
        exact list_eq_of L1.out L2.out hs.out (by omega)
      have hge : (n1 : Int) ≤ k := by omega
      go_wp2
      go_ret
      exact Ret.mk _ (boolv hr.out.symm)
theorem Ret.below {w w' : World} {v : Value} {e : Ending} (h : Ret w v e w') : e = .returned v ∧ Below w.heap.size w w' := by
  obtain ⟨h1, n, rfl⟩ := h; exact ⟨h1, adrew _ _⟩
set_option maxRecDepth 100000 in
set_option maxHeartbeats 1600000 in
theorem eq4_any {w : World} {A B : Ar} (hA : A.Is w) (hB : B.Is w) : Calls Try.prog 14 #[A.v, B.v] w (RetB w (.bool (decide (A.s = B.s ∧ A.a = B.a)))) := by
  obtain ⟨sa, sn, sc, aa, an, ac, s, a⟩ := A
  obtain ⟨ta, tn, tc, ba, bn, bc, t, b⟩ := B
  simp only [Ar.v]
  obtain ⟨W, HW⟩ : ∃ z, Hid ((w.alloc (.cells #[.slice sa sn sc, .slice aa an ac] 25)).alloc (.cells #[.slice ta tn tc, .slice ba bn bc] 25) = z) := ⟨_, rfl⟩
  have h1 := ((Sp.start Non w).alloc 25 2 1 #[.slice sa sn sc, .slice aa an ac] rfl (by decide)).alloc 25 2 1 #[.slice ta tn tc, .slice ba bn bc] rfl (by decide)
  rw [HW.out] at h1
  have H1_ := h1
  try simp only [List.cons_append, List.nil_append, List.set_cons_zero, List.set_cons_succ, List.map_cons, List.map_nil, List.getD_cons_zero, List.getD_cons_succ, World.size_alloc] at H1_
  have H1 := Lib.hid H1_
  clear H1_
  have HA := Lib.hid hA
  have HB := Lib.hid hB
  have C1 := Lib.hid (eqints_any (hA.shp.below H1.out.belowN (Nat.le_refl _)) (hB.shp.below H1.out.belowN (Nat.le_refl _)))
  simp only at C1
  obtain ⟨R, HR⟩ : ∃ z, Hid (decide (s = t ∧ a = b) = z) := ⟨_, rfl⟩
  rw [HR.out]
  have x0 := H1.out.cell (i := 0) rfl 0 _ rfl
  have x1 := H1.out.cell (i := 1) rfl 0 _ rfl
  clear hA hB h1
  by_cases hs : s = t
  · have HR2 : Hid (decide (a = b) = R) := by show _ = _; rw [← HR.out]; simp [hs]
    rw [decide_eq_true hs] at C1
    clear hs
    go_enter Try.func14, Try.ntmps14
    go_wp2_with fail
    rw [HW.out]
    refine C1.out.mono ?_; rintro e w2 hr; obtain ⟨rfl, hb2⟩ := hr.below
    have H2_ := H1.out.via hb2
    try simp only [List.cons_append, List.nil_append, List.set_cons_zero, List.set_cons_succ, List.map_cons, List.map_nil, List.getD_cons_zero, List.getD_cons_succ, World.size_alloc] at H2_
    have H2 := Lib.hid H2_
    clear H2_
    clear hr hb2 x0 x1
    have x0 := H2.out.cell (i := 0) rfl 1 _ rfl
    have x1 := H2.out.cell (i := 1) rfl 1 _ rfl
    have C2 := Lib.hid (eqatoms4_any (HA.out.ats.below H2.out.belowN (Nat.le_refl _)) (HB.out.ats.below H2.out.belowN (Nat.le_refl _)))
    simp only at C2
    rw [HR2.out] at C2
    go_wp2_with fail
    refine C2.out.mono ?_; rintro e w3 hr; obtain ⟨rfl, hb3⟩ := hr.below
    have HF := Lib.hid (RetB.mk (v := .bool R) (v' := .bool R) rfl (H2.out.via hb3).belowN)
    clear hr hb3
    go_wp2
    go_ret
    exact HF.out
  · have hR : R = false := by rw [← HR.out]; simp [hs]
    rw [decide_eq_false hs] at C1
    subst hR
    clear hs
    go_enter Try.func14, Try.ntmps14
    go_wp2_with fail
    rw [HW.out]
    refine C1.out.mono ?_; rintro e w2 hr; obtain ⟨rfl, hb2⟩ := hr.below
    have HF := Lib.hid (RetB.mk (v := .bool false) (v' := .bool false) rfl (H1.out.via hb2).belowN)
    clear hr hb2
    go_wp2
    go_ret
    exact HF.out
theorem map_eq_iff {As Bs : List Ar} {n : Nat} (h1 : As.length = n) (h2 : Bs.length = n) : (∀ i, i < n → ∀ A B, As[i]? = some A → Bs[i]? = some B → A.s = B.s ∧ A.a = B.a) ↔ As.map Ar.sa2 = Bs.map Ar.sa2 := by
  constructor
  · intro h
    apply List.ext_getElem (by simp [h1, h2])
    intro i q1 q2
    simp only [List.length_map] at q1 q2
    have := h i (by omega) As[i] Bs[i] (List.getElem?_eq_getElem q1) (List.getElem?_eq_getElem q2)
    simp [Ar.sa2, this.1, this.2]
  · intro h i hi A B hA hB
    have e : (As.map Ar.sa2)[i]? = (Bs.map Ar.sa2)[i]? := by rw [h]
    rw [List.getElem?_map, List.getElem?_map, hA, hB] at e
    simp [Ar.sa2] at e
    exact e
set_option maxRecDepth 100000 in
set_option maxHeartbeats 1600000 in
theorem eqall4_any {w : World} {ao bo : Option Addr} {n c m d : Nat} {As Bs : List Ar} (hA : Ars w ao n c As) (hB : Ars w bo m d Bs) : Calls Try.prog 29 #[.slice ao n c, .slice bo m d] w (RetB w (.bool (decide (As.map Ar.sa2 = Bs.map Ar.sa2)))) := by
  have hl1 := hA.len
  have hl2 := hB.len
  have ht := hA.top
  have hc := hA.cap
  unfold maxLen at ht
  obtain ⟨R, HR⟩ : ∃ z, Hid (decide (As.map Ar.sa2 = Bs.map Ar.sa2) = z) := ⟨_, rfl⟩
  rw [HR.out]
  have HA := Lib.hid hA
  have HB := Lib.hid hB
  by_cases hnm : n = m
  · subst hnm
    have HI := Lib.hid (map_eq_iff hl1 hl2)
    have HLL := Lib.hid (And.intro hl1 hl2)
    clear hA hB hl1 hl2
    go_enter Try.func29, Try.ntmps29
    go_wp2_with fail
    go_loopw [5] (fun v wr => ∃ k : Nat, k ≤ n ∧ v = .int .i64 k ∧ Hid ((∀ i, i < k → ∀ A B, As[i]? = some A → Bs[i]? = some B → A.s = B.s ∧ A.a = B.a) ∧ Below w.heap.size w wr)) (fun v _ => n - (RowKit.intOf v).toNat)
    case atStart => exact ⟨0, by omega, rfl, ⟨fun i hi => absurd hi (by omega), Below.refl _ _⟩⟩
    case round =>
      obtain ⟨k, hk, rfl, HO⟩ := hrel
      by_cases hlt : k < n
      · obtain ⟨⟨sa, sn, sc, aa, an, ac, s, a⟩, hAi⟩ : ∃ B, As[k]? = some B := ⟨As[k]'(by have := HLL.out.1; omega), List.getElem?_eq_getElem _⟩
        obtain ⟨⟨ta, tn, tc, ba, bn, bc, t, b⟩, hBi⟩ : ∃ B, Bs[k]? = some B := ⟨Bs[k]'(by have := HLL.out.2; omega), List.getElem?_eq_getElem _⟩
        have hbw : Below w.heap.size w wr.drew := HO.out.2.drew
        obtain ⟨g1, o1, q1, l1, c1⟩ := HA.out.mem (by omega)
        obtain ⟨g2, o2, q2, l2, c2⟩ := HB.out.mem (by omega)
        subst q1 q2
        have a0 : wr.drew.cell? ⟨g1, o1 + k * 2, none⟩ = _ := (hbw.cell (p := ⟨g1, o1 + k * 2, none⟩) l1).trans (c1 k _ hAi).1
        have a1 : wr.drew.cell? ⟨g1, o1 + k * 2 + 1, none⟩ = _ := (hbw.cell (p := ⟨g1, o1 + k * 2 + 1, none⟩) l1).trans (c1 k _ hAi).2
        have b0 : wr.drew.cell? ⟨g2, o2 + k * 2, none⟩ = _ := (hbw.cell (p := ⟨g2, o2 + k * 2, none⟩) l2).trans (c2 k _ hBi).1
        have b1 : wr.drew.cell? ⟨g2, o2 + k * 2 + 1, none⟩ = _ := (hbw.cell (p := ⟨g2, o2 + k * 2 + 1, none⟩) l2).trans (c2 k _ hBi).2
        simp only at a0 a1 b0 b1
        have CE := Lib.hid (eq4_any ((HA.out.all k _ hAi).below hbw (Nat.le_refl _)) ((HB.out.all k _ hBi).below hbw (Nat.le_refl _)))
        simp only [Ar.v] at CE
        have hlt' : (k : Int) < n := by omega
        have HAB := Lib.hid (And.intro hAi hBi)
        have HBW := Lib.hid hbw
        clear hAi hBi hbw c1 c2 l1 l2
        by_cases he : s = t ∧ a = b
        · rw [decide_eq_true he] at CE
          have HN : Hid (∀ i, i < k + 1 → ∀ A B, As[i]? = some A → Bs[i]? = some B → A.s = B.s ∧ A.a = B.a) := by
            intro i hi A B h1 h2
            by_cases e : i = k
            · subst e
              rw [HAB.out.1] at h1
              rw [HAB.out.2] at h2
              cases h1
              cases h2
              exact he
            · exact HO.out.1 i (by omega) A B h1 h2
          clear he
          go_wp2_with fail
          go_region_law (first
            | (go_simp; go_at_call 14; refine CE.out.mono ?_; rintro e w5 ⟨rfl, hb5⟩))
          all_goals
            have HN5 : Hid (Below w.heap.size w w5) := HBW.out.trans (hb5.mono HBW.out.size)
            clear hb5
            go_wp2
            go_roundw
            case rel => exact ⟨k + 1, by omega, by go_num, ⟨HN.out, HN5.out⟩⟩
            case measure => simp [RowKit.intOf]; omega
        · have hR : R = false := by
            rw [← HR.out]
            simp only [decide_eq_false_iff_not]
            intro h
            exact he (HI.out.2 h k hlt _ _ HAB.out.1 HAB.out.2)
          rw [decide_eq_false he] at CE
          subst hR
          clear he
          go_wp2_with fail
          go_region_law (first
            | (go_simp; go_at_call 14; refine CE.out.mono ?_; rintro e w5 ⟨rfl, hb5⟩))
          all_goals
            have HF := Lib.hid (RetB.mk (w := w) (v := .bool false) (v' := .bool false) rfl (HBW.out.trans (hb5.mono HBW.out.size)))
            clear hb5
            go_wp2
            go_ret
            exact HF.out
      · have hge : ¬ ((k : Int) < n) := by omega
        obtain rfl : k = n := by omega
        have hR : R = true := by rw [← HR.out]; exact decide_eq_true (HI.out.1 HO.out.1)
        subst hR
        have HF := Lib.hid (RetB.mk (w := w) (v := .bool true) (v' := .bool true) rfl HO.out.2)
        go_wp2
        go_ret
        exact HF.out
  · have hR : R = false := by
      rw [← HR.out]
      simp only [decide_eq_false_iff_not]
      intro h
      have := congrArg List.length h
      simp [hl1, hl2] at this
      exact hnm this
    subst hR
    have q0 : ((n : Int) != m) = true := by simp; omega
    have q1 : (n != m) = true := by simp; omega
    clear hA hB hl1 hl2 hnm
    go_enter Try.func29, Try.ntmps29
    go_wp2
    go_ret
    exact RetB.mk rfl (Below.refl _ _)
end Go.Proofs.Ytfmabpdkjhlihaa
namespace Go.Proofs.Ytfmabpdkjhlihaa
open Go.RowKit Go.Lib
set_option linter.unusedVariables false
set_option linter.unusedSimpArgs false
attribute [local go_sem] alloc_drewN setCell_drewN
theorem neq_piece (x1 x2 y1 y2 : Int) (w : World) : (binOp .neq 47 (.agg #[.int .i64 x1, .int .i64 x2]) (.agg #[.int .i64 y1, .int .i64 y2])).run Try.prog w = .ok (.bool (!((x1 == y1) && (x2 == y2)))) w := by
  rw [run_neq_struct, run_equalIn_agg w _ 47 _ _ (by kernel_rfl) (by kernel_rfl)]
  simp only [Program.fieldsOf, Try.underlying47]
  simp [Op.eqFields, go_sem, Try.underlying3]
  by_cases h1 : x1 = y1 <;> by_cases h2 : x2 = y2 <;> simp [h1, h2]
/-- Pieces that are read. -/
structure Pcs (w : World) (ao : Option Addr) (n c : Nat) (l : List (Int × Int)) : Prop where
  len : l.length = n
  cap : n ≤ c
  top : c ≤ maxLen
  mem : 0 < n → ∃ b off, ao = some ⟨b, off, none⟩ ∧ b < w.heap.size ∧ ∀ (i : Nat) (x : Int × Int), l[i]? = some x → w.cell? ⟨b, off + i * 2, none⟩ = some (.int .i64 x.1) ∧ w.cell? ⟨b, off + i * 2 + 1, none⟩ = some (.int .i64 x.2)
theorem Pcs.below {w w' : World} {ao : Option Addr} {n c : Nat} {l : List (Int × Int)} (h : Pcs w ao n c l) {B : Nat} (hb : Below B w w') (hB : w.heap.size ≤ B) : Pcs w' ao n c l :=
  ⟨h.len, h.cap, h.top, fun h0 => by
    obtain ⟨b, off, e, hlt, hc⟩ := h.mem h0
    refine ⟨b, off, e, Nat.lt_of_lt_of_le hlt hb.size, fun i A hA => ?_⟩
    obtain ⟨h1, h2⟩ := hc i A hA
    exact ⟨(hb.cell (p := ⟨b, off + i * 2, none⟩) (by dsimp only; omega)).trans h1, (hb.cell (p := ⟨b, off + i * 2 + 1, none⟩) (by dsimp only; omega)).trans h2⟩⟩
theorem cellsP_at : ∀ {l : List (Int × Int)} {k : Nat} {x : Int × Int}, l[k]? = some x → (cellsP l)[k * 2]? = some (.int .i64 x.1) ∧ (cellsP l)[k * 2 + 1]? = some (.int .i64 x.2)
  | [], k, x, h => by simp at h
  | y :: r, 0, x, h => by simp at h; subst h; exact ⟨rfl, rfl⟩
  | y :: r, k + 1, x, h => by
    have h' := cellsP_at (l := r) (k := k) (x := x) (by simpa using h)
    have e : cellsP (y :: r) = [.int .i64 y.1, .int .i64 y.2] ++ cellsP r := rfl
    rw [e, List.getElem?_append_right (by simp; omega), List.getElem?_append_right (by simp; omega)]
    simpa [Nat.succ_mul] using h'
theorem Sp.pcs {F0 : Nat → Prop} {w0 w : World} {L : List Pt} {i : Nat} (H : Sp F0 w0 w L) {ao : Option Addr} {n c : Nat} {l : List (Int × Int)} (e : L[i]? = some (Pt.row ⟨47, 2, ao, n, c, cellsP l⟩)) (hl : l.length = n) : Pcs w ao n c l := by
  obtain ⟨c1, c2, c3, c4, c5⟩ := H.rcap e
  refine ⟨hl, c1, c2, fun h0 => ?_⟩
  obtain ⟨g, rfl⟩ := c5 (by omega)
  refine ⟨g, 0, rfl, (H.rlt e).1, fun k A hA => ?_⟩
  obtain ⟨q1, q2⟩ := cellsP_at hA
  rw [Nat.zero_add]
  exact ⟨H.cell e _ _ q1, H.cell e _ _ q2⟩
set_option maxRecDepth 100000 in
set_option maxHeartbeats 1600000 in
theorem eqpieces4_any {w : World} {ao bo : Option Addr} {n c m d : Nat} {l r : List (Int × Int)} (hA : Pcs w ao n c l) (hB : Pcs w bo m d r) : Calls Try.prog 42 #[.slice ao n c, .slice bo m d] w (RetB w (.bool (decide (l = r)))) := by
  have hl1 := hA.len
  have hl2 := hB.len
  have ht := hA.top
  have hc := hA.cap
  unfold maxLen at ht
  obtain ⟨R, HR⟩ : ∃ z, Hid (decide (l = r) = z) := ⟨_, rfl⟩
  rw [HR.out]
  have HA := Lib.hid hA
  have HB := Lib.hid hB
  by_cases hnm : n = m
  · subst hnm
    have HLL := Lib.hid (And.intro hl1 hl2)
    clear hA hB hl1 hl2
    go_enter Try.func42, Try.ntmps42
    go_wp2_with fail
    go_loopw [5] (fun v wr => ∃ k : Nat, k ≤ n ∧ v = .int .i64 k ∧ Hid ((∀ i, i < k → l[i]? = r[i]?) ∧ Below w.heap.size w wr)) (fun v _ => n - (RowKit.intOf v).toNat)
    case atStart => exact ⟨0, by omega, rfl, ⟨fun i hi => absurd hi (by omega), Below.refl _ _⟩⟩
    case round =>
      obtain ⟨k, hk, rfl, HO⟩ := hrel
      by_cases hlt : k < n
      · obtain ⟨⟨x1, x2⟩, hAi⟩ : ∃ B, l[k]? = some B := ⟨l[k]'(by have := HLL.out.1; omega), List.getElem?_eq_getElem _⟩
        obtain ⟨⟨y1, y2⟩, hBi⟩ : ∃ B, r[k]? = some B := ⟨r[k]'(by have := HLL.out.2; omega), List.getElem?_eq_getElem _⟩
        have hbw : Below w.heap.size w wr := HO.out.2
        obtain ⟨g1, o1, q1, l1, c1⟩ := HA.out.mem (by omega)
        obtain ⟨g2, o2, q2, l2, c2⟩ := HB.out.mem (by omega)
        subst q1 q2
        have a0 : wr.cell? ⟨g1, o1 + k * 2, none⟩ = _ := (hbw.cell (p := ⟨g1, o1 + k * 2, none⟩) l1).trans (c1 k _ hAi).1
        have a1 : wr.cell? ⟨g1, o1 + k * 2 + 1, none⟩ = _ := (hbw.cell (p := ⟨g1, o1 + k * 2 + 1, none⟩) l1).trans (c1 k _ hAi).2
        have b0 : wr.cell? ⟨g2, o2 + k * 2, none⟩ = _ := (hbw.cell (p := ⟨g2, o2 + k * 2, none⟩) l2).trans (c2 k _ hBi).1
        have b1 : wr.cell? ⟨g2, o2 + k * 2 + 1, none⟩ = _ := (hbw.cell (p := ⟨g2, o2 + k * 2 + 1, none⟩) l2).trans (c2 k _ hBi).2
        simp only at a0 a1 b0 b1
        have hlt' : (k : Int) < n := by omega
        have HAB := Lib.hid (And.intro hAi hBi)
        have HBW := Lib.hid hbw
        clear hAi hBi hbw c1 c2 l1 l2
        by_cases he : x1 = y1 ∧ x2 = y2
        · have hq : ∀ w, (binOp .neq 47 (.agg #[.int .i64 x1, .int .i64 x2]) (.agg #[.int .i64 y1, .int .i64 y2])).run Try.prog w = .ok (.bool false) w := fun w => by rw [neq_piece]; simp [he.1, he.2]
          have HN : Hid (∀ i, i < k + 1 → l[i]? = r[i]?) := by
            intro i hi
            by_cases e : i = k
            · subst e; rw [HAB.out.1, HAB.out.2, he.1, he.2]
            · exact HO.out.1 i (by omega)
          clear he
          go_wp2_with fail
          go_quiet (fail)
          go_wp2
          go_roundw
          case rel => exact ⟨k + 1, by omega, by go_num, ⟨HN.out, HBW.out.trans ((adrew _ _).mono HBW.out.size)⟩⟩
          case measure => simp [RowKit.intOf]; omega
        · have hq : ∀ w, (binOp .neq 47 (.agg #[.int .i64 x1, .int .i64 x2]) (.agg #[.int .i64 y1, .int .i64 y2])).run Try.prog w = .ok (.bool true) w := fun w => by rw [neq_piece]; simp only [Result.ok.injEq, Value.bool.injEq, and_true, Bool.not_eq_true', Bool.and_eq_false_iff, beq_eq_false_iff_ne]; omega
          have hR : R = false := by
            rw [← HR.out]
            simp only [decide_eq_false_iff_not]
            intro h
            have e := HAB.out.1
            rw [h, HAB.out.2] at e
            cases e
            exact he ⟨rfl, rfl⟩
          subst hR
          clear he
          go_wp2_with fail
          go_quiet (fail)
          have HF := Lib.hid (RetB.mk (w := w) (v := .bool false) (v' := .bool false) rfl (HBW.out.trans ((adrew wr nq).mono HBW.out.size)))
          go_wp2
          go_ret
          exact HF.out
      · have hge : ¬ ((k : Int) < n) := by omega
        obtain rfl : k = n := by omega
        have hR : R = true := by
          rw [← HR.out]
          refine decide_eq_true (List.ext_getElem? fun i => ?_)
          by_cases hi : i < k
          · exact HO.out.1 i hi
          · rw [List.getElem?_eq_none (by have := HLL.out.1; omega), List.getElem?_eq_none (by have := HLL.out.2; omega)]
        subst hR
        have HF := Lib.hid (RetB.mk (w := w) (v := .bool true) (v' := .bool true) rfl HO.out.2)
        go_wp2
        go_ret
        exact HF.out
  · have hR : R = false := by
      rw [← HR.out]
      simp only [decide_eq_false_iff_not]
      intro h
      have := congrArg List.length h
      omega
    subst hR
    have q0 : ((n : Int) != m) = true := by simp; omega
    have q1 : (n != m) = true := by simp; omega
    clear hA hB hl1 hl2 hnm
    go_enter Try.func42, Try.ntmps42
    go_wp2
    go_ret
    exact RetB.mk rfl (Below.refl _ _)
end Go.Proofs.Ytfmabpdkjhlihaa

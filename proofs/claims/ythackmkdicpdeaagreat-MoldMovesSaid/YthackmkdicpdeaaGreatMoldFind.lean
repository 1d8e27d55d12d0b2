/- Contracts of mold's table of rows: rows, find, Has, and of Monad and Dyad by a row. -/
import Derived.Test.YthackmkdicpdeaaGreatMoldSmall
import Derived.Laws.EntriesVeiled
namespace Go.Proofs.YthackmkdicpdeaaGreat
open Go.RowKit Go.Lib
set_option linter.unusedVariables false
set_option linter.unusedSimpArgs false
attribute [local go_sem] alloc_drewN setCell_drewN
def fnV (f : Nat) : Value := .func (.func f) #[] #[]
/-- What is laid down of each verb: its number, what it does with one array, with two, whether it takes a list alone. -/
def rowL : List (Int × Value × Value × Bool) := [(22, fnV 91, .nilFunc, false), (23, fnV 94, fnV 95, true), (24, fnV 96, fnV 98, false), (25, fnV 99, fnV 100, false),
  (26, fnV 101, fnV 104, false), (28, fnV 105, fnV 107, true), (30, fnV 108, .nilFunc, false), (29, fnV 109, fnV 111, true), (31, fnV 112, .nilFunc, false),
  (32, fnV 113, fnV 114, true), (33, fnV 115, fnV 116, true), (41, fnV 117, fnV 118, false), (42, fnV 117, fnV 119, false)]
def rowD : Int × Value × Value × Bool := (0, .nilFunc, .nilFunc, false)
def rowC (r : Int × Value × Value × Bool) : List Value := [.int .i64 r.1, r.2.1, r.2.2.1, .bool r.2.2.2]
def fnOr (v : Value) : Prop := v = .nilFunc ∨ ∃ f, v = .func (.func f) #[] #[]
theorem rowL_fn {j : Nat} (hj : j < 13) : fnOr (rowL.getD j rowD).2.1 ∧ fnOr (rowL.getD j rowD).2.2.1 := by
  match j, hj with
  | 0, _ | 1, _ | 2, _ | 3, _ | 4, _ | 5, _ | 6, _ | 7, _ | 8, _ | 9, _ | 10, _ | 11, _ | 12, _ => exact ⟨by first | exact .inl rfl | exact .inr ⟨_, rfl⟩, by first | exact .inl rfl | exact .inr ⟨_, rfl⟩⟩
def rowsC : List Value := rowL.flatMap rowC
theorem rowsC_at {k : Nat} (hk : k < 13) : rowsC[k * 4 + 0]? = some (.int .i64 (rowL.getD k rowD).1) ∧ rowsC[k * 4 + 1]? = some (rowL.getD k rowD).2.1 ∧ rowsC[k * 4 + 2]? = some (rowL.getD k rowD).2.2.1 ∧ rowsC[k * 4 + 3]? = some (.bool (rowL.getD k rowD).2.2.2) := by
  match k, hk with
  | 0, _ | 1, _ | 2, _ | 3, _ | 4, _ | 5, _ | 6, _ | 7, _ | 8, _ | 9, _ | 10, _ | 11, _ | 12, _ => exact ⟨rfl, rfl, rfl, rfl⟩
theorem rowL_one {i j : Nat} (hi : i < 13) (hj : j < 13) (h : (rowL.getD i rowD).1 = (rowL.getD j rowD).1) : i = j := by
  have key : ∀ i j : Fin 13, (rowL.getD i.1 rowD).1 = (rowL.getD j.1 rowD).1 → i = j := by decide
  have := key ⟨i, hi⟩ ⟨j, hj⟩ h
  simpa using this
/-- A slice of the rows. -/
def RowsP (w : World) (e : Ending) (w' : World) : Prop := ∃ b, e = .returned (.slice (some ⟨b, 0, none⟩) 13 13) ∧ Sp Non w w' [Pt.row ⟨91, 4, some ⟨b, 0, none⟩, 13, 13, rowsC⟩]
set_option maxHeartbeats 800000 in
theorem rows_any (w : World) : Calls Tryz.prog 74 #[] w (RowsP w) := by
  have HF : Hid (∀ w', w' = w.alloc (.cells rowsC.toArray 91) → RowsP w (.returned (.slice (some ⟨w.heap.size, 0, none⟩) 13 13)) w') := fun w' h => by
    subst h
    exact ⟨_, rfl, (Sp.start Non w).alloc 91 4 13 rowsC.toArray rfl (by decide)⟩
  go_enter Tryz.func74, Tryz.ntmps74
  go_wp2
  refine bodyPost_ret (v := .slice (some ⟨w.heap.size, 0, none⟩) 13 13) ?_ ?_ ?_
  · simp [results, Tryz.f74, go_sem]
  · rfl
  · exact HF.out _ rfl
set_option maxHeartbeats 800000 in
theorem finds_any {w : World} {r0 : Int} {v1 v2 v3 : Value} {g : Nat} {op : Int} (hg : w.cell? ⟨g, 0, none⟩ = some (.int .i64 op)) (hgl : g < w.heap.size) : Calls Tryz.prog 76 #[.agg #[.int .i64 r0, v1, v2, v3], .pointer (some ⟨g, 0, none⟩)] w (RetB w (.bool (decide (r0 = op)))) := by
  have HB : Hid (Below w.heap.size w (w.alloc (.cells #[.int .i64 r0, v1, v2, v3] 91))) := abal _ _
  have h1 := (HB.out.cell (p := ⟨g, 0, none⟩) hgl).trans hg
  have h2 : (w.alloc (.cells #[.int .i64 r0, v1, v2, v3] 91)).cell? ⟨w.heap.size, 0, none⟩ = some (.int .i64 r0) := by simp [go_sem]
  have q : (r0 == op) = decide (r0 = op) := by by_cases h : r0 = op <;> simp [h]
  rw [← q]
  clear hg hgl q
  go_enter Tryz.func76, Tryz.ntmps76
  go_wp2
  go_ret
  exact RetB.mk rfl HB.out
def IdxP (w : World) (op : Int) (e : Ending) (w' : World) : Prop := Below w.heap.size w w' ∧ ((∃ j : Nat, j < 13 ∧ (rowL.getD j rowD).1 = op ∧ e = .returned (.int .i64 j)) ∨ ((∀ j, j < 13 → (rowL.getD j rowD).1 ≠ op) ∧ e = .returned (.int .i64 (-1))))
set_option maxRecDepth 100000 in
set_option maxHeartbeats 1600000 in
theorem idx_any {w : World} {b g : Nat} {op : Int} (hb : b < w.heap.size) (hc : ∀ (j : Nat) (v : Value), rowsC[j]? = some v → w.cell? ⟨b, j, none⟩ = some v) (hg : w.cell? ⟨g, 0, none⟩ = some (.int .i64 op)) (hgl : g < w.heap.size) :
    Calls Tryz.prog 75 #[.slice (some ⟨b, 0, none⟩) 13 13, .func (.func 76) #[] #[.pointer (some ⟨g, 0, none⟩)]] w (IdxP w op) := by
  have HC := Lib.hid hc
  have HG := Lib.hid hg
  have HB := Lib.hid hb
  have HGL := Lib.hid hgl
  clear hc hg hb hgl
  go_enter Tryz.func75, Tryz.ntmps75
  go_wp2_with fail
  go_loopw [8] (fun v wr => ∃ k : Nat, k ≤ 13 ∧ v = .int .i64 k ∧ Hid (Below w.heap.size w wr ∧ ∀ j, j < k → (rowL.getD j rowD).1 ≠ op)) (fun v _ => 13 - (RowKit.intOf v).toNat)
  case atStart => exact ⟨0, by omega, rfl, Below.refl _ _, fun j hj => absurd hj (by omega)⟩
  case round =>
    obtain ⟨k, hk, rfl, HO⟩ := hrel
    by_cases hlt : k < 13
    · have hlt' : (k : Int) < 13 := by omega
      obtain ⟨r0, r1, r2, r3⟩ := rowsC_at hlt
      have hBl := HO.out.1
      have d0 := (hBl.cell (p := ⟨b, k * 4 + 0, none⟩) HB.out).trans (HC.out _ _ r0)
      have d1 := (hBl.cell (p := ⟨b, k * 4 + 1, none⟩) HB.out).trans (HC.out _ _ r1)
      have d2 := (hBl.cell (p := ⟨b, k * 4 + 2, none⟩) HB.out).trans (HC.out _ _ r2)
      have d3 := (hBl.cell (p := ⟨b, k * 4 + 3, none⟩) HB.out).trans (HC.out _ _ r3)
      simp only [Nat.add_zero] at d0
      have C := Lib.hid (fun o v1 v2 v3 => finds_any (r0 := o) (v1 := v1) (v2 := v2) (v3 := v3) ((hBl.cell (p := ⟨g, 0, none⟩) HGL.out).trans HG.out) (Nat.lt_of_lt_of_le HGL.out hBl.size))
      have HN := Lib.hid HO.out.2
      have HBL := Lib.hid hBl
      obtain ⟨o, HOO⟩ : ∃ z, Hid ((rowL.getD k rowD).1 = z) := ⟨_, rfl⟩
      obtain ⟨v1, HV1⟩ : ∃ z, Hid ((rowL.getD k rowD).2.1 = z) := ⟨_, rfl⟩
      obtain ⟨v2, HV2⟩ : ∃ z, Hid ((rowL.getD k rowD).2.2.1 = z) := ⟨_, rfl⟩
      obtain ⟨v3, HV3⟩ : ∃ z, Hid (Value.bool (rowL.getD k rowD).2.2.2 = z) := ⟨_, rfl⟩
      rw [HOO.out] at d0
      rw [HV1.out] at d1
      rw [HV2.out] at d2
      rw [HV3.out] at d3
      clear r0 r1 r2 r3 hBl HO
      go_wp2_with fail
      refine (C.out _ _ _ _).mono ?_; rintro e w2 ⟨rfl, hb2⟩
      have HB2 := Lib.hid (HBL.out.trans (hb2.mono HBL.out.size))
      by_cases he : o = op
      · have HF : Hid (IdxP w op (.returned (.int .i64 k)) w2) := ⟨HB2.out, .inl ⟨k, hlt, by rw [HOO.out]; exact he, rfl⟩⟩
        have hd := decide_eq_true he
        clear he hb2
        go_wp2
        go_ret
        exact HF.out
      · have HF : Hid (Below w.heap.size w w2 ∧ ∀ j, j < k + 1 → (rowL.getD j rowD).1 ≠ op) := ⟨HB2.out, fun j hj => by
          by_cases e : j = k
          · subst e; rw [HOO.out]; exact he
          · exact HN.out j (by omega)⟩
        have hd := decide_eq_false he
        clear he hb2
        go_wp2
        go_roundw
        case rel => exact ⟨k + 1, by omega, by go_num, HF⟩
        case measure => simp [RowKit.intOf]; omega
    · obtain rfl : k = 13 := by omega
      have HF : Hid (IdxP w op (.returned (.int .i64 (-1))) wr) := ⟨HO.out.1, .inr ⟨fun j hj => HO.out.2 j hj, rfl⟩⟩
      clear HO hlt hk
      go_wp2
      go_ret
      exact HF.out
def rwV (r : Int × Value × Value × Bool) : Value := .agg #[.int .i64 r.1, r.2.1, r.2.2.1, .bool r.2.2.2]
/-- The row that is found, or none. -/
def FindP (w : World) (op : Int) (e : Ending) (w' : World) : Prop := Below w.heap.size w w' ∧ ((∃ j : Nat, j < 13 ∧ (rowL.getD j rowD).1 = op ∧ e = .returned (.tuple #[rwV (rowL.getD j rowD), .bool true])) ∨ ((∀ j, j < 13 → (rowL.getD j rowD).1 ≠ op) ∧ e = .returned (.tuple #[rwV rowD, .bool false])))
set_option maxRecDepth 100000 in
set_option maxHeartbeats 1600000 in
theorem find_any (op : Int) (w : World) : Calls Tryz.prog 48 #[.int .i64 op] w (FindP w op) := by
  obtain ⟨W, HW⟩ : ∃ z, Hid ((w.alloc (.cells #[.int .i64 op] 3)).alloc (.cells #[.int .i64 0, .nilFunc, .nilFunc, .bool false] 91) = z) := ⟨_, rfl⟩
  have h0 := ((Sp.start Non w).alloc 3 1 1 #[.int .i64 op] rfl (by decide)).alloc 91 4 1 #[.int .i64 0, .nilFunc, .nilFunc, .bool false] rfl (by decide)
  rw [HW.out] at h0
  have H1_ := h0
  try simp only [List.cons_append, List.nil_append, List.set_cons_zero, List.set_cons_succ, List.map_cons, List.map_nil, List.getD_cons_zero, List.getD_cons_succ, World.size_alloc] at H1_
  have H1 := Lib.hid H1_
  clear H1_
  have CR := Lib.hid (rows_any W)
  clear h0
  go_enter Tryz.func48, Tryz.ntmps48
  go_wp2_with fail
  rw [HW.out]
  refine CR.out.mono ?_; rintro e w2 ⟨b, rfl, h2⟩
  have H2_ := H1.out.add h2
  try simp only [List.cons_append, List.nil_append, List.set_cons_zero, List.set_cons_succ, List.map_cons, List.map_nil, List.getD_cons_zero, List.getD_cons_succ, World.size_alloc] at H2_
  have H2 := Lib.hid H2_
  clear H2_
  have CI := Lib.hid (idx_any (op := op) (H2.out.rlt (i := 2) rfl).1 (fun j v hj => H2.out.cell (i := 2) rfl j v hj) (H2.out.cell (i := 0) rfl 0 _ rfl) (H2.out.rlt (i := 0) rfl).1)
  clear h2 H1
  go_wp2_with fail
  refine CI.out.mono ?_; rintro e w3 ⟨hb3, hor⟩
  have H3_ := H2.out.via hb3
  try simp only [List.cons_append, List.nil_append, List.set_cons_zero, List.set_cons_succ, List.map_cons, List.map_nil, List.getD_cons_zero, List.getD_cons_succ, World.size_alloc] at H3_
  have H3 := Lib.hid H3_
  clear H3_
  have x0 := H3.out.cell (i := 1) rfl 0 _ rfl
  have x1 := H3.out.cell (i := 1) rfl 1 _ rfl
  have x2 := H3.out.cell (i := 1) rfl 2 _ rfl
  have x3 := H3.out.cell (i := 1) rfl 3 _ rfl
  have f0 := H3.out.frozen (i := 1) rfl 0
  have f1 := H3.out.frozen (i := 1) rfl 1
  have f2 := H3.out.frozen (i := 1) rfl 2
  have f3 := H3.out.frozen (i := 1) rfl 3
  have HBB : Hid (∀ u0 u1 u2 u3, Below w.heap.size w ((((w3.setCell ⟨w.heap.size + 1, 0, none⟩ u0).setCell ⟨w.heap.size + 1, 1, none⟩ u1).setCell ⟨w.heap.size + 1, 2, none⟩ u2).setCell ⟨w.heap.size + 1, 3, none⟩ u3)) := fun u0 u1 u2 u3 =>
    ((((H3.out.put (i := 1) rfl 0 u0).put (i := 1) rfl 1 u1).put (i := 1) rfl 2 u2).put (i := 1) rfl 3 u3).belowN
  rcases hor with ⟨j, hj, hjo, rfl⟩ | ⟨hno, rfl⟩
  · obtain ⟨r0, r1, r2, r3⟩ := rowsC_at hj
    have d0 := H3.out.cell (i := 2) rfl _ _ r0
    have d1 := H3.out.cell (i := 2) rfl _ _ r1
    have d2 := H3.out.cell (i := 2) rfl _ _ r2
    have d3 := H3.out.cell (i := 2) rfl _ _ r3
    simp only [Nat.add_zero] at d0
    have HF : Hid (∀ w', Below w.heap.size w w' → FindP w op (.returned (.tuple #[rwV (rowL.getD j rowD), .bool true])) w') := fun w' h => ⟨h, .inl ⟨j, hj, hjo, rfl⟩⟩
    simp only [rwV] at HF
    obtain ⟨o, HOO⟩ : ∃ z, Hid ((rowL.getD j rowD).1 = z) := ⟨_, rfl⟩
    obtain ⟨v1, HV1⟩ : ∃ z, Hid ((rowL.getD j rowD).2.1 = z) := ⟨_, rfl⟩
    obtain ⟨v2, HV2⟩ : ∃ z, Hid ((rowL.getD j rowD).2.2.1 = z) := ⟨_, rfl⟩
    obtain ⟨v3, HV3⟩ : ∃ z, Hid ((rowL.getD j rowD).2.2.2 = z) := ⟨_, rfl⟩
    rw [HOO.out] at d0 HF
    rw [HV1.out] at d1 HF
    rw [HV2.out] at d2 HF
    rw [HV3.out] at d3 HF
    obtain ⟨n1, n2⟩ := rowL_fn hj
    rw [HV1.out] at n1
    rw [HV2.out] at n2
    have hj' : (j : Int) < 13 := by omega
    have hj2 : ¬ (j : Int) < 0 := by omega
    clear r0 r1 r2 r3 hjo HOO HV1 HV2 HV3 H3 hb3 H2
    rcases n1 with rfl | ⟨g1, rfl⟩ <;> rcases n2 with rfl | ⟨g2, rfl⟩
    all_goals
      go_wp2
      refine bodyPost_ret ?_ ?_ (HF.out _ (HBB.out _ _ _ _))
      · simp [results, Tryz.f48, go_sem, *]
      · rfl
  · have HF : Hid (∀ w', Below w.heap.size w w' → FindP w op (.returned (.tuple #[rwV rowD, .bool false])) w') := fun w' h => ⟨h, .inr ⟨hno, rfl⟩⟩
    simp only [rwV, rowD] at HF
    clear hno H3 hb3 H2
    go_wp2
    refine bodyPost_ret ?_ ?_ (HF.out _ (HBB.out _ _ _ _))
    · simp [results, Tryz.f48, go_sem, *]
    · rfl
theorem find_at {op : Int} {j : Nat} (hj : j < 13) (hop : (rowL.getD j rowD).1 = op) (w : World) : Calls Tryz.prog 48 #[.int .i64 op] w (RetB w (.tuple #[rwV (rowL.getD j rowD), .bool true])) := by
  refine (find_any op w).mono ?_
  rintro e w' ⟨hb, ⟨i, hi, hio, rfl⟩ | ⟨hno, rfl⟩⟩
  · obtain rfl := rowL_one hi hj (hio.trans hop.symm)
    exact ⟨rfl, hb⟩
  · exact absurd hop (hno j hj)
theorem find_no {op : Int} (hno : ∀ j, j < 13 → (rowL.getD j rowD).1 ≠ op) (w : World) : Calls Tryz.prog 48 #[.int .i64 op] w (RetB w (.tuple #[rwV rowD, .bool false])) := by
  refine (find_any op w).mono ?_
  rintro e w' ⟨hb, ⟨i, hi, hio, rfl⟩ | ⟨hno, rfl⟩⟩
  · exact absurd hio (hno i hi)
  · exact ⟨rfl, hb⟩
end Go.Proofs.YthackmkdicpdeaaGreat

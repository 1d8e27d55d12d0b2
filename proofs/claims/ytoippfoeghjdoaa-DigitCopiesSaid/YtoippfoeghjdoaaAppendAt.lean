/- append of a slice that reads as a list, to a row that the call owns: where the row lies then; the same at a step of a region that draws its order. -/
import Derived.Test.YtoippfoeghjdoaaAppend
import Derived.Maps.AppendAt
namespace Go.Proofs.Ytoippfoeghjdoaa
open Go.RowKit Go.Lib
set_option linter.unusedVariables false
set_option linter.unusedSimpArgs false
section
variable {P : Program} (w : World)
theorem run_append_loc (base : Nat) (t ty e : TypeId) (i : TypeInfo) (ht : P.underlying t = some (.slice e)) (hi : P.info? e = some i) (hz : i.zero = some (.int .i64 0)) (hsize : i.size = 1) (hby : i.bytes = 8)
    (v : Value) (n : Nat) (xs : List Int) (hown : w.ownsRow base e 1 v n (xs.map (Value.int .i64))) {ao : Option Addr} {m c : Nat} {zs : List Int} (hL : Ls w ao m c zs)
    (h63 : (n + m) * 8 ≤ 140737488355328) (hbase : base ≤ w.heap.size) :
    ∃ bo d w', (Builtin.append_ #[t, t] ty #[v, .slice ao m c]).run P w = .ok (.slice bo (n + m) d) w' ∧ w'.ownsRow base e 1 (.slice bo (n + m) d) (n + m) ((xs ++ zs).map (Value.int .i64)) ∧ w.grownBy w' v.ownBlock ∧
      (∀ g, (Value.slice bo (n + m) d).ownBlock = some g → v.ownBlock = some g ∨ g = w.heap.size) ∧ (0 < m → bo ≠ none) := by
  cases ao with
  | some a =>
    have hc : ∀ j u, (zs.map (Value.int .i64))[j]? = some u → w.cell? (a.add j) = some u := by
      intro j u hj
      have hj' : j < zs.length := by
        rcases Nat.lt_or_ge j zs.length with h1 | h1
        · exact h1
        · rw [List.getElem?_eq_none (by simpa using h1)] at hj; cases hj
      have hl := hL.len
      obtain ⟨b, off, e1, hc⟩ := hL.at (by omega)
      cases e1
      rw [Addr.add_lit, hc j (by omega)]
      rw [getD_map_int zs j hj'] at hj
      exact hj
    obtain ⟨v', w', h1, h2, h3, h4, h5⟩ := Go.run_append_own_at (P := P) w base t ty e i (.int .i64 0) 1 8 ht hi hz hsize hby rfl (by decide) v n (xs.map (Value.int .i64)) hown a m c (zs.map (Value.int .i64)) (by simp [hL.len]) hc
      (by intro u hu; simp only [List.mem_map] at hu; obtain ⟨x, _, rfl⟩ := hu; rfl) (by unfold maxLen; omega) (by omega) hbase
    rw [← List.map_append] at h2
    rcases h2.2 with ⟨e1, e2⟩ | ⟨g, cap, cur, rfl, hbg, hg, hnc, _⟩
    · subst e1
      have hm : n = 0 ∧ m = 0 := by omega
      refine ⟨none, 0, w', ?_, ?_, h3, fun g hg => by simp [Value.ownBlock] at hg, fun h => by omega⟩
      · rw [h1, hm.1, hm.2]
      · have := h2; rw [hm.1, hm.2] at this; rw [hm.1, hm.2]; exact this
    · refine ⟨_, _, w', h1, h2, h3, fun q hq => ?_, fun _ => by simp⟩
      rcases h5 with h5 | h5
      · left; rw [← h5]; exact hq
      · right; rw [h5] at hq; simpa using hq.symm
  | none =>
    have hm : m = 0 := by
      rcases Nat.eq_zero_or_pos m with h | h
      · exact h
      · obtain ⟨b, off, e1, _⟩ := hL.mem h; cases e1
    subst hm
    have hz0 : zs = [] := List.eq_nil_of_length_eq_zero hL.len
    subst hz0
    rcases hown.2 with ⟨rfl, rfl⟩ | ⟨g, cap, cur, rfl, hbg, hg, hnc, hcm, hcs, htake⟩
    · refine ⟨none, 0, w, ?_, by simpa using hown, ⟨rfl, rfl, rfl, Nat.le_refl _, fun _ _ _ => rfl⟩, fun g hg => .inl hg, fun h => by omega⟩
      simp [Builtin.append_, run_underlying ht, sizeOf, typeInfo, hi, Builtin.lenOf, Builtin.firstCells, loadCells, loadCellsFrom]
    · refine ⟨some ⟨g, 0, none⟩, cap, w, ?_, by simpa using hown, ⟨rfl, rfl, rfl, Nat.le_refl _, fun _ _ _ => rfl⟩, fun g hg => .inl hg, fun h => by omega⟩
      simp [Builtin.append_, run_underlying ht, sizeOf, typeInfo, hi, Builtin.lenOf, Builtin.firstCells, storeCells, hnc]
theorem wp_append_loc {o : Oper} {a : Act} {K : Act → World → Prop} {Q : Exit → Act → World → Prop} (s x : Operand) (t : TypeId)
    (ho : o.op = .call { callee := .builtin .append, args := #[s, x], argTypes := #[t, t] })
    (base : Nat) (e : TypeId) (i : TypeInfo) (ht : P.underlying t = some (.slice e)) (hi : P.info? e = some i) (hz : i.zero = some (.int .i64 0)) (hsize : i.size = 1) (hby : i.bytes = 8)
    (v : Value) (n : Nat) (xs : List Int) (hs : a.eval s = v) (hown : w.ownsRow base e 1 v n (xs.map (Value.int .i64))) {ao : Option Addr} {m c : Nat} {zs : List Int} (hx : a.eval x = .slice ao m c) (hL : Ls w ao m c zs)
    (h63 : (n + m) * 8 ≤ 140737488355328) (hbase : base ≤ w.heap.size)
    (h : ∀ bo d w', w'.ownsRow base e 1 (.slice bo (n + m) d) (n + m) ((xs ++ zs).map (Value.int .i64)) → w.grownBy w' v.ownBlock → (∀ g, (Value.slice bo (n + m) d).ownBlock = some g → v.ownBlock = some g ∨ g = w.heap.size) → (0 < m → bo ≠ none) → K (a.put o.dst (.slice bo (n + m) d)) w') : o.wp P a w K Q := by
  obtain ⟨bo, d, w', hr, h2, h3, h4, h5⟩ := run_append_loc (P := P) w base t o.type e i ht hi hz hsize hby v n xs hown hL h63 hbase
  unfold Oper.wp execOp
  simp only [ho, resolve, invoke, builtin, Sem.run_bind, Sem.run_pure, Result.andThen_ok, List.map_toArray, List.map_cons, List.map_nil, hs, hx, hr]
  exact h bo d w' h2 h3 h4 h5
theorem wpList_append_loc {ops : Array Oper} {rest : List Oper} {o : Oper} {a : Act} {Q : Exit → Act → World → Prop} (hgd : o.guard = none) (s x : Operand) (t : TypeId)
    (ho : o.op = .call { callee := .builtin .append, args := #[s, x], argTypes := #[t, t] })
    (base : Nat) (e : TypeId) (i : TypeInfo) (ht : P.underlying t = some (.slice e)) (hi : P.info? e = some i) (hz : i.zero = some (.int .i64 0)) (hsize : i.size = 1) (hby : i.bytes = 8)
    (v : Value) (n : Nat) (xs : List Int) (hs : a.eval s = v) (hown : w.ownsRow base e 1 v n (xs.map (Value.int .i64))) {ao : Option Addr} {m c : Nat} {zs : List Int} (hx : a.eval x = .slice ao m c) (hL : Ls w ao m c zs)
    (h63 : (n + m) * 8 ≤ 140737488355328) (hbase : base ≤ w.heap.size)
    (h : ∀ bo d w', w'.ownsRow base e 1 (.slice bo (n + m) d) (n + m) ((xs ++ zs).map (Value.int .i64)) → w.grownBy w' v.ownBlock → (∀ g, (Value.slice bo (n + m) d).ownBlock = some g → v.ownBlock = some g ∨ g = w.heap.size) → (0 < m → bo ≠ none) → wpList P ops Q rest (a.put o.dst (.slice bo (n + m) d)) w') : wpList P ops Q (o :: rest) a w :=
  wpList_plain hgd fun _ hK => wp_append_loc w s x t ho base e i ht hi hz hsize hby v n xs hs hown hx hL h63 hbase fun bo d w' h2 h3 h4 h5 => hK _ _ (h bo d w' h2 h3 h4 h5)
theorem step_append_loc {ops : Array Oper} {o : Oper} {a : Act} {K : Act → World → Prop} {Q : Exit → Act → World → Prop} {E : Prop} (hgd : o.guard = none) (s x : Operand) (t : TypeId)
    (ho : o.op = .call { callee := .builtin .append, args := #[s, x], argTypes := #[t, t] })
    (base : Nat) (e : TypeId) (i : TypeInfo) (ht : P.underlying t = some (.slice e)) (hi : P.info? e = some i) (hz : i.zero = some (.int .i64 0)) (hsize : i.size = 1) (hby : i.bytes = 8)
    (v : Value) (n : Nat) (xs : List Int) (hs : a.eval s = v) (hown : w.ownsRow base e 1 v n (xs.map (Value.int .i64))) {ao : Option Addr} {m c : Nat} {zs : List Int} (hx : a.eval x = .slice ao m c) (hL : Ls w ao m c zs)
    (h63 : (n + m) * 8 ≤ 140737488355328) (hbase : base ≤ w.heap.size)
    (h : ∀ bo d w', w'.ownsRow base e 1 (.slice bo (n + m) d) (n + m) ((xs ++ zs).map (Value.int .i64)) → w.grownBy w' v.ownBlock → (∀ g, (Value.slice bo (n + m) d).ownBlock = some g → v.ownBlock = some g ∨ g = w.heap.size) → (0 < m → bo ≠ none) → K (a.put o.dst (.slice bo (n + m) d)) w') :
    if Region.wanted o (yielded ops a.tmps) = true then Oper.wp P o a w K Q else E := by
  have hw : Region.wanted o (yielded ops a.tmps) = true := by simp [Region.wanted, hgd]
  rw [if_pos hw]
  exact wp_append_loc w s x t ho base e i ht hi hz hsize hby v n xs hs hown hx hL h63 hbase h
/-- The same, to a row of none. -/
theorem step_append_loc0 {ops : Array Oper} {o : Oper} {a : Act} {K : Act → World → Prop} {Q : Exit → Act → World → Prop} {E : Prop} (hgd : o.guard = none) (s x : Operand) (t : TypeId)
    (ho : o.op = .call { callee := .builtin .append, args := #[s, x], argTypes := #[t, t] })
    (base : Nat) (e : TypeId) (i : TypeInfo) (ht : P.underlying t = some (.slice e)) (hi : P.info? e = some i) (hz : i.zero = some (.int .i64 0)) (hsize : i.size = 1) (hby : i.bytes = 8)
    (v : Value) (hs : a.eval s = v) (hown : w.ownsRow base e 1 v 0 []) {ao : Option Addr} {m c : Nat} {zs : List Int} (hx : a.eval x = .slice ao m c) (hL : Ls w ao m c zs)
    (h63 : m * 8 ≤ 140737488355328) (hbase : base ≤ w.heap.size)
    (h : ∀ bo d w', w'.ownsRow base e 1 (.slice bo m d) m (zs.map (Value.int .i64)) → w.grownBy w' v.ownBlock → (∀ g, (Value.slice bo m d).ownBlock = some g → v.ownBlock = some g ∨ g = w.heap.size) → (0 < m → bo ≠ none) → K (a.put o.dst (.slice bo m d)) w') :
    if Region.wanted o (yielded ops a.tmps) = true then Oper.wp P o a w K Q else E :=
  step_append_loc w hgd s x t ho base e i ht hi hz hsize hby v 0 [] hs hown hx hL (by omega) hbase (by
    intro bo d w' h1 h2 h3 h4
    rw [Nat.zero_add] at h1 h3 ⊢
    exact h bo d w' h1 h2 h3 h4)
end
end Go.Proofs.Ytoippfoeghjdoaa

/- append of a slice that reads as a list, to a row that the call owns. -/
import Derived.Test.YtoippfoeghjdoaaClone
namespace Go.Proofs.Ytoippfoeghjdoaa
open Go.RowKit Go.Lib
set_option linter.unusedVariables false
set_option linter.unusedSimpArgs false
theorem own_form {w : World} {base : Nat} {E : TypeId} {v : Value} {n : Nat} {xs : List Value} (h : w.ownsRow base E 1 v n xs) : ∃ ao c, v = .slice ao n c := by
  rcases h.2 with ⟨rfl, rfl⟩ | ⟨g, cap, cur, rfl, _⟩
  · exact ⟨_, _, rfl⟩
  · exact ⟨_, _, rfl⟩
section
variable {P : Program} (w : World)
theorem run_append_ls (base : Nat) (t ty e : TypeId) (i : TypeInfo) (ht : P.underlying t = some (.slice e)) (hi : P.info? e = some i) (hz : i.zero = some (.int .i64 0)) (hsize : i.size = 1) (hby : i.bytes = 8)
    (v : Value) (n : Nat) (xs : List Int) (hown : w.ownsRow base e 1 v n (xs.map (Value.int .i64))) {ao : Option Addr} {m c : Nat} {zs : List Int} (hL : Ls w ao m c zs)
    (h63 : n + m ≤ 1000000) (hbase : base ≤ w.heap.size) :
    ∃ v' w', (Builtin.append_ #[t, t] ty #[v, .slice ao m c]).run P w = .ok v' w' ∧ w'.ownsRow base e 1 v' (n + m) ((xs ++ zs).map (Value.int .i64)) ∧ w.grownBy w' v.ownBlock := by
  cases ao with
  | some a =>
    have hc : ∀ j u, (zs.map (Value.int .i64))[j]? = some u → w.cell? (a.add j) = some u := by
      intro j u hj
      have hj' : j < zs.length := by
        rcases Nat.lt_or_ge j zs.length with h1 | h1
        · exact h1
        · rw [List.getElem?_eq_none (by simpa using h1)] at hj; cases hj
      have hl := hL.len
      obtain ⟨b, off, e1, hc⟩ := hL.at (by omega)
      cases e1
      rw [Addr.add_lit, hc j (by omega)]
      rw [getD_map_int zs j hj'] at hj
      exact hj
    obtain ⟨v', w', h1, h2, h3, _⟩ := run_append_own (P := P) w base t ty e i (.int .i64 0) 1 8 ht hi hz hsize hby rfl (by decide) v n (xs.map (Value.int .i64)) hown a m c (zs.map (Value.int .i64)) (by simp [hL.len]) hc
      (by intro u hu; simp only [List.mem_map] at hu; obtain ⟨x, _, rfl⟩ := hu; rfl) (by unfold maxLen; omega) (by omega) hbase
    exact ⟨v', w', h1, by rw [List.map_append]; exact h2, h3⟩
  | none =>
    have hm : m = 0 := by
      rcases Nat.eq_zero_or_pos m with h | h
      · exact h
      · obtain ⟨b, off, e1, _⟩ := hL.mem h; cases e1
    subst hm
    have hz0 : zs = [] := List.eq_nil_of_length_eq_zero hL.len
    subst hz0
    refine ⟨v, w, ?_, by simpa using hown, ⟨rfl, rfl, rfl, Nat.le_refl _, fun _ _ _ => rfl⟩⟩
    rcases hown.2 with ⟨rfl, rfl⟩ | ⟨g, cap, cur, rfl, hbg, hg, hnc, hcm, hcs, htake⟩
    · simp [Builtin.append_, run_underlying ht, sizeOf, typeInfo, hi, Builtin.lenOf, Builtin.firstCells, loadCells, loadCellsFrom]
    · simp [Builtin.append_, run_underlying ht, sizeOf, typeInfo, hi, Builtin.lenOf, Builtin.firstCells, storeCells, hnc]
theorem wpList_append_ls {ops : Array Oper} {rest : List Oper} {o : Oper} {a : Act} {Q : Exit → Act → World → Prop} (hgd : o.guard = none) (s x : Operand) (t : TypeId)
    (ho : o.op = .call { callee := .builtin .append, args := #[s, x], argTypes := #[t, t] })
    (base : Nat) (e : TypeId) (i : TypeInfo) (ht : P.underlying t = some (.slice e)) (hi : P.info? e = some i) (hz : i.zero = some (.int .i64 0)) (hsize : i.size = 1) (hby : i.bytes = 8)
    (v : Value) (n : Nat) (xs : List Int) (hs : a.eval s = v) (hown : w.ownsRow base e 1 v n (xs.map (Value.int .i64))) {ao : Option Addr} {m c : Nat} {zs : List Int} (hx : a.eval x = .slice ao m c) (hL : Ls w ao m c zs)
    (h63 : n + m ≤ 1000000) (hbase : base ≤ w.heap.size)
    (h : ∀ v' w', w'.ownsRow base e 1 v' (n + m) ((xs ++ zs).map (Value.int .i64)) → w.grownBy w' v.ownBlock → wpList P ops Q rest (a.put o.dst v') w') : wpList P ops Q (o :: rest) a w :=
  wpList_plain hgd fun _ hK => by
    obtain ⟨v', w', hr, h2, h3⟩ := run_append_ls (P := P) w base t o.type e i ht hi hz hsize hby v n xs hown hL h63 hbase
    unfold Oper.wp execOp
    simp only [ho, resolve, invoke, builtin, Sem.run_bind, Sem.run_pure, Result.andThen_ok, List.map_toArray, List.map_cons, List.map_nil, hs, hx, hr]
    exact hK _ _ (h v' w' h2 h3)
theorem run_append_big (base : Nat) (t ty e : TypeId) (i : TypeInfo) (ht : P.underlying t = some (.slice e)) (hi : P.info? e = some i) (hz : i.zero = some (.int .i64 0)) (hsize : i.size = 1) (hby : i.bytes = 8)
    (v : Value) (n : Nat) (xs : List Int) (hown : w.ownsRow base e 1 v n (xs.map (Value.int .i64))) {ao : Option Addr} {m c : Nat} {zs : List Int} (hL : Ls w ao m c zs)
    (h63 : (n + m) * 8 ≤ 140737488355328) (hbase : base ≤ w.heap.size) :
    ∃ v' w', (Builtin.append_ #[t, t] ty #[v, .slice ao m c]).run P w = .ok v' w' ∧ w'.ownsRow base e 1 v' (n + m) ((xs ++ zs).map (Value.int .i64)) ∧ w.grownBy w' v.ownBlock := by
  cases ao with
  | some a =>
    have hc : ∀ j u, (zs.map (Value.int .i64))[j]? = some u → w.cell? (a.add j) = some u := by
      intro j u hj
      have hj' : j < zs.length := by
        rcases Nat.lt_or_ge j zs.length with h1 | h1
        · exact h1
        · rw [List.getElem?_eq_none (by simpa using h1)] at hj; cases hj
      have hl := hL.len
      obtain ⟨b, off, e1, hc⟩ := hL.at (by omega)
      cases e1
      rw [Addr.add_lit, hc j (by omega)]
      rw [getD_map_int zs j hj'] at hj
      exact hj
    obtain ⟨v', w', h1, h2, h3, _⟩ := run_append_own (P := P) w base t ty e i (.int .i64 0) 1 8 ht hi hz hsize hby rfl (by decide) v n (xs.map (Value.int .i64)) hown a m c (zs.map (Value.int .i64)) (by simp [hL.len]) hc
      (by intro u hu; simp only [List.mem_map] at hu; obtain ⟨x, _, rfl⟩ := hu; rfl) (by unfold maxLen; omega) (by omega) hbase
    exact ⟨v', w', h1, by rw [List.map_append]; exact h2, h3⟩
  | none =>
    have hm : m = 0 := by
      rcases Nat.eq_zero_or_pos m with h | h
      · exact h
      · obtain ⟨b, off, e1, _⟩ := hL.mem h; cases e1
    subst hm
    have hz0 : zs = [] := List.eq_nil_of_length_eq_zero hL.len
    subst hz0
    refine ⟨v, w, ?_, by simpa using hown, ⟨rfl, rfl, rfl, Nat.le_refl _, fun _ _ _ => rfl⟩⟩
    rcases hown.2 with ⟨rfl, rfl⟩ | ⟨g, cap, cur, rfl, hbg, hg, hnc, hcm, hcs, htake⟩
    · simp [Builtin.append_, run_underlying ht, sizeOf, typeInfo, hi, Builtin.lenOf, Builtin.firstCells, loadCells, loadCellsFrom]
    · simp [Builtin.append_, run_underlying ht, sizeOf, typeInfo, hi, Builtin.lenOf, Builtin.firstCells, storeCells, hnc]
theorem wpList_append_big {ops : Array Oper} {rest : List Oper} {o : Oper} {a : Act} {Q : Exit → Act → World → Prop} (hgd : o.guard = none) (s x : Operand) (t : TypeId)
    (ho : o.op = .call { callee := .builtin .append, args := #[s, x], argTypes := #[t, t] })
    (base : Nat) (e : TypeId) (i : TypeInfo) (ht : P.underlying t = some (.slice e)) (hi : P.info? e = some i) (hz : i.zero = some (.int .i64 0)) (hsize : i.size = 1) (hby : i.bytes = 8)
    (v : Value) (n : Nat) (xs : List Int) (hs : a.eval s = v) (hown : w.ownsRow base e 1 v n (xs.map (Value.int .i64))) {ao : Option Addr} {m c : Nat} {zs : List Int} (hx : a.eval x = .slice ao m c) (hL : Ls w ao m c zs)
    (h63 : (n + m) * 8 ≤ 140737488355328) (hbase : base ≤ w.heap.size)
    (h : ∀ v' w', w'.ownsRow base e 1 v' (n + m) ((xs ++ zs).map (Value.int .i64)) → w.grownBy w' v.ownBlock → wpList P ops Q rest (a.put o.dst v') w') : wpList P ops Q (o :: rest) a w :=
  wpList_plain hgd fun _ hK => by
    obtain ⟨v', w', hr, h2, h3⟩ := run_append_big (P := P) w base t o.type e i ht hi hz hsize hby v n xs hown hL h63 hbase
    unfold Oper.wp execOp
    simp only [ho, resolve, invoke, builtin, Sem.run_bind, Sem.run_pure, Result.andThen_ok, List.map_toArray, List.map_cons, List.map_nil, hs, hx, hr]
    exact hK _ _ (h v' w' h2 h3)
end
end Go.Proofs.Ytoippfoeghjdoaa

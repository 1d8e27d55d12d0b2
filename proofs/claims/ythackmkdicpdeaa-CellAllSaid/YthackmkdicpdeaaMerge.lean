/- Plain facts on items: how many, how long, what they are. The memory in which a short array is handed in (abacuslaw3.Hand): Lay and Kept. append of a slice that reads as a list, to a row that the call owns: where the row lies then; the same at a step of a region that draws its order. What every statement of the layer asks ahead: begun. The memory in which a short array is handed in (abacuslaw3.Hand): Lay. Two hands at a round's head; a block of cells that may be written. Rows that a program holds, each in a block of its own, by names: made, read, written, appended to, moved. Rows that a call made, taken into the rows that its caller holds. -/
import Derived.Test.YthackmkdicpdeaaHeap
import Derived.Deep.RegionHeld3
import Derived.Deep.CutRange
import Derived.Deep.Cut
import Derived.Maps.AppendAt
namespace Go.Proofs.Ythackmkdicpdeaa
open Go.RowKit Go.Lib
set_option linter.unusedVariables false
set_option linter.unusedSimpArgs false
theorem below_via' {W W1 W2 : World} (h : Below W.heap.size W W1) (h2 : Below W1.heap.size W1 W2) : Below W.heap.size W W2 := h.trans (h2.mono h.size)
theorem pm_cons (x : Int) (xs : List Int) : pm (x :: xs) = max x 1 * pm xs := by
  have : ∀ (xs : List Int) (a b : Int), xs.foldl (fun n k => n * max k 1) (a * b) = a * xs.foldl (fun n k => n * max k 1) b := by
    intro xs; induction xs with
    | nil => intro a b; rfl
    | cons y ys ih => intro a b; simp only [List.foldl_cons]; rw [Int.mul_assoc, ih]
  have h := this xs (max x 1) 1
  simpa [pm] using h
theorem mayE_tail {s : List Int} (h : mayE s = 0) : mayE s.tail = 0 := by
  cases s with
  | nil => exact h
  | cons x xs =>
    show mayE xs = 0
    unfold mayE at h ⊢
    have h1 : xs.any (fun k => decide (k < 0)) = false := by
      split at h
      · omega
      · rename_i h2; simp only [List.any_cons, Bool.or_eq_true, not_or] at h2; simpa using h2.2
    have h2 : ¬ 8 < xs.length ∧ ¬ 4096 < pm (x :: xs) := by
      split at h
      · omega
      · split at h
        · omega
        · split at h
          · omega
          · rename_i h3 h4; simp only [List.length_cons] at h3; exact ⟨by omega, h4⟩
    have h3 : pm xs ≤ pm (x :: xs) := by
      rw [pm_cons]
      have hp := (pm_up xs xs.length).1
      rw [List.take_length] at hp
      exact (le_mul1 (show 1 ≤ max x 1 by omega) hp).2
    rw [h1]
    simp only [Bool.false_eq_true, if_false]
    rw [if_neg h2.1, if_neg (by omega)]
theorem item_len {s a : List Int} (h : amE s a = 0) : ∃ N m : Nat, itE s a = N ∧ pr s.tail = m ∧ N * m = a.length := by
  obtain ⟨h1, h2⟩ := amE_zero h
  obtain ⟨g1, g2, g3⟩ := mayE_zero h1
  cases s with
  | nil =>
    refine ⟨1, 1, by simp [itE, h], rfl, ?_⟩
    have : pr [] = 1 := rfl
    omega
  | cons x xs =>
    have e : itE (x :: xs) a = x := by simp [itE, h]
    rw [pr_cons] at h2
    have hxs : ∀ i, 0 ≤ xs.getD i 0 := fun i => by have := g1 (i + 1); simpa [List.getD] using this
    have hp := (pr_le xs hxs xs.length).1
    rw [List.take_length] at hp
    have hx : 0 ≤ x := by simpa using g1 0
    obtain ⟨N, rfl⟩ := Int.eq_ofNat_of_zero_le hx
    obtain ⟨m, hm⟩ := Int.eq_ofNat_of_zero_le hp
    refine ⟨N, m, by rw [e], by simpa using hm, ?_⟩
    rw [hm] at h2
    exact_mod_cast h2
theorem it_one {s a : List Int} {N : Nat} (h : s.length = 0) (h2 : amE s a = 0) (h3 : itE s a = N) : N = 1 := by
  rw [itE, if_pos h2, if_pos h] at h3; omega
theorem it_head {s a : List Int} {N n : Nat} (h : s.length = n) (h0 : 0 < n) (h2 : amE s a = 0) (h3 : itE s a = N) : s.getD 0 0 = N := by
  rw [itE, if_pos h2, if_neg (by omega)] at h3; exact h3
theorem itemA_length {a : List Int} {N m k : Nat} (h : N * m = a.length) (hk : k < N) : (itemA a k m).length = m := by
  have h1 : (k + 1) * m ≤ N * m := Nat.mul_le_mul_right _ (by omega)
  rw [Nat.add_mul, Nat.one_mul] at h1
  simp [itemA]; omega
theorem itemA_take (a : List Int) (k m : Nat) : a.take (k * m) ++ itemA a k m = a.take ((k + 1) * m) := by
  rw [Nat.add_mul, Nat.one_mul, List.take_add]; rfl
theorem amE_item {s a : List Int} {N m k : Nat} (h : amE s a = 0) (hm : pr s.tail = m) (hN : N * m = a.length) (hk : k < N) : amE s.tail (itemA a k m) = 0 := by
  obtain ⟨h1, h2⟩ := amE_zero h
  unfold amE
  rw [if_pos (mayE_tail h1), itemA_length hN hk, if_pos hm]
end Go.Proofs.Ythackmkdicpdeaa
namespace Go.Proofs.Ythackmkdicpdeaa
open Go.RowKit Go.Lib
set_option linter.unusedVariables false
set_option linter.unusedSimpArgs false
attribute [local go_sem] alloc_drewN setCell_drewN

structure Hd where
  (hb : Nat)
  (sa : Option Addr)
  (sn : Nat)
  (aa : Option Addr)
  (an : Nat)
  (S A : List Int)
/-- The blocks of the hand. -/
def Hd.foot (H : Hd) (k : Nat) : Prop := k = H.hb ∨ (Value.slice H.sa H.sn H.sn).ownBlock = some k ∨ (Value.slice H.aa H.an H.an).ownBlock = some k
structure Hd.Is (H : Hd) (base : Nat) (w : World) : Prop where
  box : BoxA w H.hb (.slice H.sa H.sn H.sn) (.slice H.aa H.an H.an)
  shp : w.ownsRow base 3 1 (.slice H.sa H.sn H.sn) H.sn (H.S.map (Value.int .i64))
  ats : w.ownsRow base 2 1 (.slice H.aa H.an H.an) H.an (H.A.map (Value.int .i64))
  le : base ≤ H.hb
  n1 : (Value.slice H.sa H.sn H.sn).ownBlock ≠ some H.hb
  n2 : (Value.slice H.aa H.an H.an).ownBlock ≠ some H.hb
  ne : ∀ g, (Value.slice H.sa H.sn H.sn).ownBlock = some g → (Value.slice H.aa H.an H.an).ownBlock ≠ some g
  alt : (H.sa = none ∧ H.aa = none) ∨ (H.sa ≠ none ∧ H.aa ≠ none)
theorem Hd.Is.foot_lt {H : Hd} {base : Nat} {w : World} (h : H.Is base w) {k : Nat} (hk : H.foot k) : base ≤ k ∧ k < w.heap.size := by
  rcases hk with rfl | hk | hk
  · exact ⟨h.le, h.box.lt⟩
  · exact own_block h.shp hk
  · exact own_block h.ats hk
theorem Hd.Is.out {H : Hd} {base : Nat} {w w' : World} {F : Nat → Prop} (h : H.Is base w) (ho : Out F w w') (hF : ∀ k, H.foot k → ¬ F k) : H.Is base w' :=
  ⟨ho.boxA h.box (hF _ (.inl rfl)), ho.own h.shp (fun g hg => hF g (.inr (.inl hg))), ho.own h.ats (fun g hg => hF g (.inr (.inr hg))), h.le, h.n1, h.n2, h.ne, h.alt⟩
theorem Hd.Is.via {H : Hd} {base : Nat} {w w' : World} (h : H.Is base w) (hb : Below w.heap.size w w') : H.Is base w' := h.out (F := fun _ => False) (.of hb) (fun _ _ h => h)
theorem own_len {w : World} {base : Nat} {E : TypeId} {v : Value} {n : Nat} {S : List Int} (h : w.ownsRow base E 1 v n (S.map (Value.int .i64))) : S.length = n := by
  have := h.1; simpa using this
theorem Hd.Is.setS {H : Hd} {base : Nat} {w : World} (h : H.Is base w) {g k : Nat} (hg : H.sa = some ⟨g, 0, none⟩) (v : Int) : Hd.Is { H with S := H.S.set k v } base (w.setCell ⟨g, k, none⟩ (.int .i64 v)) := by
  have hv : (Value.slice H.sa H.sn H.sn).ownBlock = some g := by rw [hg]; rfl
  have hne : g ≠ H.hb := fun e => by
    exact h.n1 (by rw [hv, e])
  have ho : Out (fun k => k = g) w (w.setCell ⟨g, k, none⟩ (.int .i64 v)) := (Out.refl (fun k => k = g) w).setCell (p := ⟨g, k, none⟩) (.inl rfl) _
  have hst := h.shp
  rw [hg] at hst
  have hs := (hst.stored k (.int .i64 v)).1
  rw [← List.map_set] at hs
  exact ⟨ho.boxA h.box (fun e => hne e.symm), by rw [hg]; exact hs, ho.own h.ats (fun q hq e => h.ne g hv (by rw [hq, e])), h.le, h.n1, h.n2, h.ne, h.alt⟩
theorem Hd.Is.setA {H : Hd} {base : Nat} {w : World} (h : H.Is base w) {g k : Nat} (hg : H.aa = some ⟨g, 0, none⟩) (v : Int) : Hd.Is { H with A := H.A.set k v } base (w.setCell ⟨g, k, none⟩ (.int .i64 v)) := by
  have hv : (Value.slice H.aa H.an H.an).ownBlock = some g := by rw [hg]; rfl
  have hne : g ≠ H.hb := fun e => by
    exact h.n2 (by rw [hv, e])
  have ho : Out (fun k => k = g) w (w.setCell ⟨g, k, none⟩ (.int .i64 v)) := (Out.refl (fun k => k = g) w).setCell (p := ⟨g, k, none⟩) (.inl rfl) _
  have hst := h.ats
  rw [hg] at hst
  have hs := (hst.stored k (.int .i64 v)).1
  rw [← List.map_set] at hs
  exact ⟨ho.boxA h.box (fun e => hne e.symm), ho.own h.shp (fun q hq e => h.ne q hq (by rw [hv, e])), by rw [hg]; exact hs, h.le, h.n1, h.n2, h.ne, h.alt⟩
/-- The i-th mark behind a list. -/
def mkS (i : Nat) : Int := wrap64 (-70000 - (i : Int))
def mkA (i : Nat) : Int := wrap64 (-80000 - (i : Int))
/-- What stands in a row, as far as it reaches: a list, marks behind it. -/
def Good (s S : List Int) (f : Nat → Int) : Prop := ∀ i, i < S.length → S.getD i 0 = if i < s.length then s.getD i 0 else f i
/-- A row whose first k elements are written over. -/
def ovr (v : Int) (k : Nat) (S : List Int) : List Int := List.replicate k v ++ S.drop k
theorem ovr_len (v : Int) {k : Nat} {S : List Int} (h : k ≤ S.length) : (ovr v k S).length = S.length := by simp [ovr]; omega
theorem ovr_set (v : Int) {k : Nat} {S : List Int} (h : k < S.length) : (ovr v k S).set k v = ovr v (k + 1) S := by
  unfold ovr
  rw [List.set_append_right _ _ (by simp), List.length_replicate, Nat.sub_self, List.drop_eq_getElem_cons h, List.set_cons_zero, List.replicate_succ', List.append_assoc]
  rfl
theorem ovr_get (v : Int) {k : Nat} {S : List Int} (h : k < S.length) : (ovr v k S).getD k 0 = S.getD k 0 := by
  unfold ovr
  rw [List.getD_eq_getElem?_getD, List.getElem?_append_right (by simp), List.length_replicate, Nat.sub_self, List.getElem?_drop, Nat.add_zero, List.getD_eq_getElem?_getD]
/-- The hand after Kept: its own blocks alone were written. -/
def KeptP (H : Hd) (base : Nat) (w : World) (e : Ending) (w' : World) : Prop :=
  e = .returned (.bool true) ∧ Out H.foot w w' ∧ ∃ H' : Hd, H'.hb = H.hb ∧ (∀ k, H'.foot k → H.foot k) ∧ H'.Is base w'
theorem beq_same (x : Int) : (x == x) = true := by simp
def shB (A : Ar) : Bool := decide (A.sn ≤ 5000) && decide (A.an ≤ 5000)
end Go.Proofs.Ythackmkdicpdeaa
namespace Go.Proofs.Ythackmkdicpdeaa
open Go.RowKit Go.Lib
set_option linter.unusedVariables false
set_option linter.unusedSimpArgs false
section
variable {P : Program} (w : World)
theorem run_append_loc (base : Nat) (t ty e : TypeId) (i : TypeInfo) (ht : P.underlying t = some (.slice e)) (hi : P.info? e = some i) (hz : i.zero = some (.int .i64 0)) (hsize : i.size = 1) (hby : i.bytes = 8)
    (v : Value) (n : Nat) (xs : List Int) (hown : w.ownsRow base e 1 v n (xs.map (Value.int .i64))) {ao : Option Addr} {m c : Nat} {zs : List Int} (hL : Ls w ao m c zs)
    (h63 : (n + m) * 8 ≤ 140737488355328) (hbase : base ≤ w.heap.size) :
    ∃ bo d w', (Builtin.append_ #[t, t] ty #[v, .slice ao m c]).run P w = .ok (.slice bo (n + m) d) w' ∧ w'.ownsRow base e 1 (.slice bo (n + m) d) (n + m) ((xs ++ zs).map (Value.int .i64)) ∧ w.grownBy w' v.ownBlock ∧
      (∀ g, (Value.slice bo (n + m) d).ownBlock = some g → v.ownBlock = some g ∨ g = w.heap.size) ∧ (0 < m → bo ≠ none) := by
  cases ao with
  | some a =>
    have hc : ∀ j u, (zs.map (Value.int .i64))[j]? = some u → w.cell? (a.add j) = some u := by
      intro j u hj
      have hj' : j < zs.length := by
        rcases Nat.lt_or_ge j zs.length with h1 | h1
        · exact h1
        · rw [List.getElem?_eq_none (by simpa using h1)] at hj; cases hj
      have hl := hL.len
      obtain ⟨b, off, e1, hc⟩ := hL.at (by omega)
      cases e1
      rw [Addr.add_lit, hc j (by omega)]
      rw [getD_map_int zs j hj'] at hj
      exact hj
    obtain ⟨v', w', h1, h2, h3, h4, h5⟩ := Go.run_append_own_at (P := P) w base t ty e i (.int .i64 0) 1 8 ht hi hz hsize hby rfl (by decide) v n (xs.map (Value.int .i64)) hown a m c (zs.map (Value.int .i64)) (by simp [hL.len]) hc
      (by intro u hu; simp only [List.mem_map] at hu; obtain ⟨x, _, rfl⟩ := hu; rfl) (by unfold maxLen; omega) (by omega) hbase
    rw [← List.map_append] at h2
    rcases h2.2 with ⟨e1, e2⟩ | ⟨g, cap, cur, rfl, hbg, hg, hnc, _⟩
    · subst e1
      have hm : n = 0 ∧ m = 0 := by omega
      refine ⟨none, 0, w', ?_, ?_, h3, fun g hg => by simp [Value.ownBlock] at hg, fun h => by omega⟩
      · rw [h1, hm.1, hm.2]
      · have := h2; rw [hm.1, hm.2] at this; rw [hm.1, hm.2]; exact this
    · refine ⟨_, _, w', h1, h2, h3, fun q hq => ?_, fun _ => by simp⟩
      rcases h5 with h5 | h5
      · left; rw [← h5]; exact hq
      · right; rw [h5] at hq; simpa using hq.symm
  | none =>
    have hm : m = 0 := by
      rcases Nat.eq_zero_or_pos m with h | h
      · exact h
      · obtain ⟨b, off, e1, _⟩ := hL.mem h; cases e1
    subst hm
    have hz0 : zs = [] := List.eq_nil_of_length_eq_zero hL.len
    subst hz0
    rcases hown.2 with ⟨rfl, rfl⟩ | ⟨g, cap, cur, rfl, hbg, hg, hnc, hcm, hcs, htake⟩
    · refine ⟨none, 0, w, ?_, by simpa using hown, ⟨rfl, rfl, rfl, Nat.le_refl _, fun _ _ _ => rfl⟩, fun g hg => .inl hg, fun h => by omega⟩
      simp [Builtin.append_, run_underlying ht, sizeOf, typeInfo, hi, Builtin.lenOf, Builtin.firstCells, loadCells, loadCellsFrom]
    · refine ⟨some ⟨g, 0, none⟩, cap, w, ?_, by simpa using hown, ⟨rfl, rfl, rfl, Nat.le_refl _, fun _ _ _ => rfl⟩, fun g hg => .inl hg, fun h => by omega⟩
      simp [Builtin.append_, run_underlying ht, sizeOf, typeInfo, hi, Builtin.lenOf, Builtin.firstCells, storeCells, hnc]
theorem wp_append_loc {o : Oper} {a : Act} {K : Act → World → Prop} {Q : Exit → Act → World → Prop} (s x : Operand) (t : TypeId)
    (ho : o.op = .call { callee := .builtin .append, args := #[s, x], argTypes := #[t, t] })
    (base : Nat) (e : TypeId) (i : TypeInfo) (ht : P.underlying t = some (.slice e)) (hi : P.info? e = some i) (hz : i.zero = some (.int .i64 0)) (hsize : i.size = 1) (hby : i.bytes = 8)
    (v : Value) (n : Nat) (xs : List Int) (hs : a.eval s = v) (hown : w.ownsRow base e 1 v n (xs.map (Value.int .i64))) {ao : Option Addr} {m c : Nat} {zs : List Int} (hx : a.eval x = .slice ao m c) (hL : Ls w ao m c zs)
    (h63 : (n + m) * 8 ≤ 140737488355328) (hbase : base ≤ w.heap.size)
    (h : ∀ bo d w', w'.ownsRow base e 1 (.slice bo (n + m) d) (n + m) ((xs ++ zs).map (Value.int .i64)) → w.grownBy w' v.ownBlock → (∀ g, (Value.slice bo (n + m) d).ownBlock = some g → v.ownBlock = some g ∨ g = w.heap.size) → (0 < m → bo ≠ none) → K (a.put o.dst (.slice bo (n + m) d)) w') : o.wp P a w K Q := by
  obtain ⟨bo, d, w', hr, h2, h3, h4, h5⟩ := run_append_loc (P := P) w base t o.type e i ht hi hz hsize hby v n xs hown hL h63 hbase
  unfold Oper.wp execOp
  simp only [ho, resolve, invoke, builtin, Sem.run_bind, Sem.run_pure, Result.andThen_ok, List.map_toArray, List.map_cons, List.map_nil, hs, hx, hr]
  exact h bo d w' h2 h3 h4 h5
theorem wpList_append_loc {ops : Array Oper} {rest : List Oper} {o : Oper} {a : Act} {Q : Exit → Act → World → Prop} (hgd : o.guard = none) (s x : Operand) (t : TypeId)
    (ho : o.op = .call { callee := .builtin .append, args := #[s, x], argTypes := #[t, t] })
    (base : Nat) (e : TypeId) (i : TypeInfo) (ht : P.underlying t = some (.slice e)) (hi : P.info? e = some i) (hz : i.zero = some (.int .i64 0)) (hsize : i.size = 1) (hby : i.bytes = 8)
    (v : Value) (n : Nat) (xs : List Int) (hs : a.eval s = v) (hown : w.ownsRow base e 1 v n (xs.map (Value.int .i64))) {ao : Option Addr} {m c : Nat} {zs : List Int} (hx : a.eval x = .slice ao m c) (hL : Ls w ao m c zs)
    (h63 : (n + m) * 8 ≤ 140737488355328) (hbase : base ≤ w.heap.size)
    (h : ∀ bo d w', w'.ownsRow base e 1 (.slice bo (n + m) d) (n + m) ((xs ++ zs).map (Value.int .i64)) → w.grownBy w' v.ownBlock → (∀ g, (Value.slice bo (n + m) d).ownBlock = some g → v.ownBlock = some g ∨ g = w.heap.size) → (0 < m → bo ≠ none) → wpList P ops Q rest (a.put o.dst (.slice bo (n + m) d)) w') : wpList P ops Q (o :: rest) a w :=
  wpList_plain hgd fun _ hK => wp_append_loc w s x t ho base e i ht hi hz hsize hby v n xs hs hown hx hL h63 hbase fun bo d w' h2 h3 h4 h5 => hK _ _ (h bo d w' h2 h3 h4 h5)
theorem step_append_loc {ops : Array Oper} {o : Oper} {a : Act} {K : Act → World → Prop} {Q : Exit → Act → World → Prop} {E : Prop} (hgd : o.guard = none) (s x : Operand) (t : TypeId)
    (ho : o.op = .call { callee := .builtin .append, args := #[s, x], argTypes := #[t, t] })
    (base : Nat) (e : TypeId) (i : TypeInfo) (ht : P.underlying t = some (.slice e)) (hi : P.info? e = some i) (hz : i.zero = some (.int .i64 0)) (hsize : i.size = 1) (hby : i.bytes = 8)
    (v : Value) (n : Nat) (xs : List Int) (hs : a.eval s = v) (hown : w.ownsRow base e 1 v n (xs.map (Value.int .i64))) {ao : Option Addr} {m c : Nat} {zs : List Int} (hx : a.eval x = .slice ao m c) (hL : Ls w ao m c zs)
    (h63 : (n + m) * 8 ≤ 140737488355328) (hbase : base ≤ w.heap.size)
    (h : ∀ bo d w', w'.ownsRow base e 1 (.slice bo (n + m) d) (n + m) ((xs ++ zs).map (Value.int .i64)) → w.grownBy w' v.ownBlock → (∀ g, (Value.slice bo (n + m) d).ownBlock = some g → v.ownBlock = some g ∨ g = w.heap.size) → (0 < m → bo ≠ none) → K (a.put o.dst (.slice bo (n + m) d)) w') :
    if Region.wanted o (yielded ops a.tmps) = true then Oper.wp P o a w K Q else E := by
  have hw : Region.wanted o (yielded ops a.tmps) = true := by simp [Region.wanted, hgd]
  rw [if_pos hw]
  exact wp_append_loc w s x t ho base e i ht hi hz hsize hby v n xs hs hown hx hL h63 hbase h
/-- The same, to a row of none. -/
theorem step_append_loc0 {ops : Array Oper} {o : Oper} {a : Act} {K : Act → World → Prop} {Q : Exit → Act → World → Prop} {E : Prop} (hgd : o.guard = none) (s x : Operand) (t : TypeId)
    (ho : o.op = .call { callee := .builtin .append, args := #[s, x], argTypes := #[t, t] })
    (base : Nat) (e : TypeId) (i : TypeInfo) (ht : P.underlying t = some (.slice e)) (hi : P.info? e = some i) (hz : i.zero = some (.int .i64 0)) (hsize : i.size = 1) (hby : i.bytes = 8)
    (v : Value) (hs : a.eval s = v) (hown : w.ownsRow base e 1 v 0 []) {ao : Option Addr} {m c : Nat} {zs : List Int} (hx : a.eval x = .slice ao m c) (hL : Ls w ao m c zs)
    (h63 : m * 8 ≤ 140737488355328) (hbase : base ≤ w.heap.size)
    (h : ∀ bo d w', w'.ownsRow base e 1 (.slice bo m d) m (zs.map (Value.int .i64)) → w.grownBy w' v.ownBlock → (∀ g, (Value.slice bo m d).ownBlock = some g → v.ownBlock = some g ∨ g = w.heap.size) → (0 < m → bo ≠ none) → K (a.put o.dst (.slice bo m d)) w') :
    if Region.wanted o (yielded ops a.tmps) = true then Oper.wp P o a w K Q else E :=
  step_append_loc w hgd s x t ho base e i ht hi hz hsize hby v 0 [] hs hown hx hL (by omega) hbase (by
    intro bo d w' h1 h2 h3 h4
    rw [Nat.zero_add] at h1 h3 ⊢
    exact h bo d w' h1 h2 h3 h4)
end
end Go.Proofs.Ythackmkdicpdeaa
namespace Go.Proofs.Ythackmkdicpdeaa
open Go.RowKit Go.Lib
set_option linter.unusedVariables false
set_option linter.unusedSimpArgs false
attribute [local go_sem] alloc_drewN setCell_drewN

/-- A new block of integers reads as the list. -/
theorem ls_alloc (w : World) (zs : List Int) (T : TypeId) (h : zs.length ≤ 100000) (hr : ∀ i, -9223372036854775808 ≤ zs.getD i 0 ∧ zs.getD i 0 ≤ 9223372036854775807) :
    Ls (w.alloc (.cells (zs.map (Value.int .i64)).toArray T)) (some ⟨w.heap.size, 0, none⟩) zs.length zs.length zs := by
  refine ⟨rfl, Nat.le_refl _, by omega, by unfold maxLen; omega, fun h0 => ⟨w.heap.size, 0, rfl, by simp, fun i hi => ?_⟩, hr⟩
  rw [World.cell?_alloc_at _ _ _ _ rfl, Nat.zero_add]
  show (zs.map (Value.int .i64)).toArray[i]? = _
  rw [List.getElem?_toArray]
  exact getD_map_int zs i hi
end Go.Proofs.Ythackmkdicpdeaa
namespace Go.Proofs.Ythackmkdicpdeaa
open Go.RowKit Go.Lib
set_option linter.unusedVariables false
set_option linter.unusedSimpArgs false
attribute [local go_sem] alloc_drewN setCell_drewN

/-- Lay: the array lies in the hand's memory, marks behind it; a long one is handed in as it is. -/
def LaidP (H : Hd) (A : Ar) (base : Nat) (w : World) (e : Ending) (w' : World) : Prop :=
  ∃ B : Ar, e = .returned B.v ∧ B.Is w' ∧ B.s = A.s ∧ B.a = A.a ∧ Out H.foot w w' ∧
    ∃ H' : Hd, H'.hb = H.hb ∧ (∀ k, H'.foot k → H.foot k ∨ w.heap.size ≤ k) ∧ H'.Is base w' ∧ Good A.s H'.S mkS ∧ Good A.a H'.A mkA ∧
      ∀ (F : Nat → Prop) (w2 : World), Out F w' w2 → (∀ j, H'.foot j → ¬ F j) → (∀ j, j < base → ¬ F j) → B.Is w2
theorem Hd.Is.gone {H : Hd} {base : Nat} {w : World} (h : H.Is base w) : Hd.Is ⟨H.hb, none, 0, none, 0, [], []⟩ base ((w.setCell ⟨H.hb, 0, none⟩ (.slice none 0 0)).setCell ⟨H.hb, 1, none⟩ (.slice none 0 0)) :=
  ⟨h.box.set _ _, World.ownsRow_nil _ _ _ _, World.ownsRow_nil _ _ _ _, h.le, by simp [Value.ownBlock], by simp [Value.ownBlock], fun g hg => by simp [Value.ownBlock] at hg, .inl ⟨rfl, rfl⟩⟩
theorem own_at {w : World} {base : Nat} {E : TypeId} {ao : Option Addr} {n c : Nat} {xs : List Value} (h : w.ownsRow base E 1 (.slice ao n c) n xs) (h0 : ao ≠ none) : ∃ g, ao = some ⟨g, 0, none⟩ := by
  rcases h.2 with ⟨h2, -⟩ | ⟨g, cap, cur, hv, -⟩
  · cases h2; exact absurd rfl h0
  · cases hv; exact ⟨g, rfl⟩
/-- The row behind its n first elements is filled with marks up to k. -/
def fl (f : Nat → Int) (n k : Nat) (xs : List Value) : List Value := (List.range xs.length).map fun j => if n ≤ j ∧ j < k then .int .i64 (f j) else xs.getD j undef
theorem fl_len (f : Nat → Int) (n k : Nat) (xs : List Value) : (fl f n k xs).length = xs.length := by simp [fl]
theorem fl_start (f : Nat → Int) (n : Nat) (xs : List Value) : fl f n n xs = xs := by
  refine List.ext_getElem (fl_len _ _ _ _) fun j h1 h2 => ?_
  simp only [fl, List.getElem_map, List.getElem_range]
  rw [if_neg (by omega), List.getD_eq_getElem?_getD, List.getElem?_eq_getElem h2]; rfl
theorem fl_set (f : Nat → Int) {n k : Nat} {xs : List Value} (hn : n ≤ k) (hk : k < xs.length) : (fl f n k xs).set k (.int .i64 (f k)) = fl f n (k + 1) xs := by
  refine List.ext_getElem (by rw [List.length_set, fl_len, fl_len]) fun j h1 h2 => ?_
  rw [List.getElem_set]
  simp only [fl, List.getElem_map, List.getElem_range]
  by_cases e : k = j
  · subst e; rw [if_pos rfl, if_pos ⟨hn, Nat.lt_succ_self _⟩]
  · rw [if_neg e]
    by_cases h : n ≤ j ∧ j < k
    · rw [if_pos h, if_pos ⟨h.1, by omega⟩]
    · rw [if_neg h, if_neg (by omega)]
/-- A list, marks behind it, d in all. -/
def mkd (f : Nat → Int) (s : List Int) (d : Nat) : List Int := (List.range d).map fun j => if j < s.length then s.getD j 0 else f j
theorem fl_end (f : Nat → Int) {s : List Int} {ys : List Value} {d : Nat} (hd : (s.map (Value.int .i64) ++ ys).length = d) : fl f s.length d (s.map (Value.int .i64) ++ ys) = (mkd f s d).map (Value.int .i64) := by
  refine List.ext_getElem (by rw [fl_len, hd]; simp [mkd]) fun j h1 h2 => ?_
  rw [fl_len, hd] at h1
  simp only [fl, mkd, List.getElem_map, List.getElem_range]
  by_cases h : j < s.length
  · rw [if_neg (by omega), if_pos h, List.getD_eq_getElem?_getD, List.getElem?_append_left (by simpa using h), getD_map_int _ _ h]; rfl
  · rw [if_pos ⟨by omega, h1⟩, if_neg h]
theorem mkd_good (f : Nat → Int) (s : List Int) (d : Nat) : Good s (mkd f s d) f := by
  intro i hi
  have hi' : i < d := by simpa [mkd] using hi
  simp only [mkd]
  rw [List.getD_eq_getElem?_getD, List.getElem?_map, List.getElem?_range hi']; rfl
theorem mkd_take (f : Nat → Int) {s : List Int} {d : Nat} (h : s.length ≤ d) : (mkd f s d).take s.length = s := by
  refine List.ext_getElem (by simp [mkd]; omega) fun j h1 h2 => ?_
  simp only [List.getElem_take, mkd, List.getElem_map, List.getElem_range]
  rw [if_pos h2, List.getD_eq_getElem?_getD, List.getElem?_eq_getElem h2]; rfl
theorem ls_of_full {w : World} {base : Nat} {E : TypeId} {g n d : Nat} {S s : List Int} (h : w.ownsRow base E 1 (.slice (some ⟨g, 0, none⟩) d d) d (S.map (Value.int .i64))) (hn : n ≤ d) (hs : S.take n = s) (hb : n * 8 ≤ 140737488351232)
    (hr : ∀ i, -9223372036854775808 ≤ s.getD i 0 ∧ s.getD i 0 ≤ 9223372036854775807) : Ls w (some ⟨g, 0, none⟩) n d s := by
  have hl := own_len h
  obtain ⟨-, hm, -⟩ := own_full h
  obtain ⟨g', e, -, hlt⟩ : ∃ g', some (⟨g, 0, none⟩ : Addr) = some ⟨g', 0, none⟩ ∧ base ≤ g' ∧ (n = 0 ∨ g' < w.heap.size) := by
    rcases Nat.eq_zero_or_pos n with h0 | h0
    · rcases h.2 with ⟨e, -⟩ | ⟨q, cap, cur, e, hq, -⟩
      · cases e
      · exact ⟨q, by cases e; rfl, hq, .inl h0⟩
    · obtain ⟨q, e, h1, h2⟩ := own_some h (by omega); exact ⟨q, e, h1, .inr h2⟩
  cases e
  refine ⟨by rw [← hs, List.length_take]; omega, hn, hb, hm, fun h0 => ⟨g, 0, rfl, by omega, fun i hi => ?_⟩, hr⟩
  rw [Nat.zero_add]
  refine (h.cellAt i (by omega)).trans ((getD_map_int S i (by omega)).trans ?_)
  rw [← hs]
  simp [List.getD, List.getElem?_take, hi]
/-- A row that has grown by an append: where it lies, what else has changed. -/
structure LayM (base : Nat) (T : TypeId) (WR wx : World) (v0 : Value) (bo : Option Addr) (n d : Nat) (xs : List Int) : Prop where
  own : wx.ownsRow base T 1 (.slice bo n d) n (xs.map (Value.int .i64))
  out : Out (fun k => v0.ownBlock = some k) WR wx
  loc : ∀ g, (Value.slice bo n d).ownBlock = some g → v0.ownBlock = some g ∨ WR.heap.size ≤ g
  ne : bo ≠ none
section
variable {base : Nat} {T : TypeId} {WR w3 w4 : World} {v0 : Value} {o : Obj} {b1 b2 : Option Addr} {n d1 d2 : Nat} {xs : List Int}
theorem lo_a1 (g1 : WR.drew.grownBy w3 v0.ownBlock) : Out (fun k => v0.ownBlock = some k) WR w3 := ((Out.refl _ WR).via (adrew1 WR)).grown g1 (fun k hk => .inl hk)
theorem lo_a2 (g1 : WR.drew.grownBy w3 v0.ownBlock) (l1 : ∀ g, (Value.slice b1 n d1).ownBlock = some g → v0.ownBlock = some g ∨ g = WR.drew.heap.size) (g2 : (w3.alloc o).grownBy w4 (Value.slice b1 n d1).ownBlock) : Out (fun k => v0.ownBlock = some k) WR w4 := by
  refine ((lo_a1 g1).alloc o).grown g2 fun k hk => ?_
  rcases l1 k hk with h | h
  · exact .inl h
  · exact .inr (by rw [h]; exact Nat.le_refl _)
theorem lo_b1 (g1 : (WR.alloc o).drew.grownBy w3 v0.ownBlock) : Out (fun k => v0.ownBlock = some k) WR w3 := (((Out.refl _ WR).alloc o).via (adrew1 _)).grown g1 (fun k hk => .inl hk)
theorem lo_bl (l1 : ∀ g, (Value.slice b1 n d1).ownBlock = some g → v0.ownBlock = some g ∨ g = (WR.alloc o).drew.heap.size) : ∀ g, (Value.slice b1 n d1).ownBlock = some g → v0.ownBlock = some g ∨ WR.heap.size ≤ g := fun g hg => by
  rcases l1 g hg with h | h
  · exact .inl h
  · right; rw [h, show (WR.alloc o).drew.heap.size = WR.heap.size + 1 by simp]; omega
theorem lo_b2 (g1 : (WR.alloc o).drew.grownBy w3 v0.ownBlock) (l1 : ∀ g, (Value.slice b1 n d1).ownBlock = some g → v0.ownBlock = some g ∨ g = (WR.alloc o).drew.heap.size) (g2 : w3.grownBy w4 (Value.slice b1 n d1).ownBlock) : Out (fun k => v0.ownBlock = some k) WR w4 :=
  (lo_b1 g1).grown g2 (lo_bl l1)
theorem lay_a (g1 : WR.drew.grownBy w3 v0.ownBlock) (l1 : ∀ g, (Value.slice b1 n d1).ownBlock = some g → v0.ownBlock = some g ∨ g = WR.drew.heap.size)
    (o2 : w4.ownsRow base T 1 (.slice b2 (n + 2) d2) (n + 2) (xs.map (Value.int .i64))) (g2 : (w3.alloc o).grownBy w4 (Value.slice b1 n d1).ownBlock) (l2 : ∀ g, (Value.slice b2 (n + 2) d2).ownBlock = some g → (Value.slice b1 n d1).ownBlock = some g ∨ g = (w3.alloc o).heap.size) (hne : 0 < 2 → b2 ≠ none) :
    LayM base T WR w4 v0 b2 (n + 2) d2 xs := by
  have hs : WR.heap.size ≤ w3.heap.size := g1.size
  refine ⟨o2, lo_a2 g1 l1 g2, ?_, hne (by omega)⟩
  intro g hg
  rcases l2 g hg with h | h
  · rcases l1 g h with h | h
    · exact .inl h
    · exact .inr (by rw [h]; exact Nat.le_refl _)
  · right; rw [h]; simp; omega
theorem lay_b (g1 : (WR.alloc o).drew.grownBy w3 v0.ownBlock) (l1 : ∀ g, (Value.slice b1 n d1).ownBlock = some g → v0.ownBlock = some g ∨ g = (WR.alloc o).drew.heap.size)
    (o2 : w4.ownsRow base T 1 (.slice b2 (n + 2) d2) (n + 2) (xs.map (Value.int .i64))) (g2 : w3.grownBy w4 (Value.slice b1 n d1).ownBlock) (l2 : ∀ g, (Value.slice b2 (n + 2) d2).ownBlock = some g → (Value.slice b1 n d1).ownBlock = some g ∨ g = w3.heap.size) (hne : 0 < 2 → b2 ≠ none) :
    LayM base T WR w4 v0 b2 (n + 2) d2 xs := by
  have hs : (WR.alloc o).heap.size ≤ w3.heap.size := g1.size
  simp at hs
  refine ⟨o2, lo_b2 g1 l1 g2, ?_, hne (by omega)⟩
  intro g hg
  rcases l2 g hg with h | h
  · exact lo_bl l1 g h
  · right; omega
end
theorem lit00 (w : World) (T : TypeId) : Ls (w.alloc (.cells #[.int .i64 0, .int .i64 0] T)) (some ⟨w.heap.size, 0, none⟩) 2 2 [0, 0] := by
  have h := ls_alloc w [0, 0] T (by simp) (fun i => by match i with | 0 => simp | 1 => simp | i + 2 => simp [List.getD])
  simpa using h
theorem lit00b {w w3 : World} {T : TypeId} {row : Option Nat} (hg : (w.alloc (.cells #[.int .i64 0, .int .i64 0] T)).drew.grownBy w3 row) (hr : ∀ k, row = some k → k < w.heap.size) : Ls w3 (some ⟨w.heap.size, 0, none⟩) 2 2 [0, 0] := by
  have h := lit00 w T
  refine ⟨h.len, h.cap, h.big, h.top, fun h0 => ?_, h.rng⟩
  obtain ⟨b, off, e, hlt, hc⟩ := h.mem h0
  cases e
  have hs := hg.size
  simp at hs hlt
  refine ⟨_, _, rfl, by omega, fun i hi => ?_⟩
  refine (World.cell?_of_block (hg.block _ (by simp) (fun e => ?_))).trans (hc i hi)
  have h5 := hr _ e.symm
  simp only at h5
  omega
def rowV (t : List Int) (X : List Value) : List Value := (t ++ [0, 0]).map (Value.int .i64) ++ X
theorem rowV_len (t : List Int) (X : List Value) : (rowV t X).length = t.length + 2 + X.length := by simp [rowV]; omega
theorem rowV_end (f : Nat → Int) {t : List Int} {X : List Value} {n d : Nat} (hn : t.length = n) (hd : (rowV t X).length = d) : fl f n d (rowV t X) = (mkd f t d).map (Value.int .i64) := by
  subst hn
  have e : rowV t X = t.map (Value.int .i64) ++ (([0, 0] : List Int).map (Value.int .i64) ++ X) := by simp [rowV]
  rw [e] at hd ⊢
  exact fl_end f hd
/-- Both rows at their whole length, the header not yet written. -/
structure LayS (F : Nat → Prop) (W wr : World) (base hb g1 d1 g2 d2 : Nat) (u v : Value) (X Y : List Value) : Prop where
  own1 : wr.ownsRow base 3 1 (.slice (some ⟨g1, 0, none⟩) d1 d1) d1 X
  own2 : wr.ownsRow base 2 1 (.slice (some ⟨g2, 0, none⟩) d2 d2) d2 Y
  out : Out F W wr
  ok1 : F g1 ∨ W.heap.size ≤ g1
  ok2 : F g2 ∨ W.heap.size ≤ g2
  ne : g1 ≠ g2
  m1 : g1 ≠ hb
  m2 : g2 ≠ hb
  box : BoxA wr hb u v
section
variable {F : Nat → Prop} {W wr : World} {base hb g1 d1 g2 d2 : Nat} {u v : Value} {X Y : List Value}
theorem one_out (wr : World) (g k : Nat) (z : Value) : Out (fun q => q = g) wr (wr.setCell ⟨g, k, none⟩ z) := (Out.refl (fun q => q = g) wr).setCell (p := ⟨g, k, none⟩) (.inl rfl) z
theorem LayS.put1 (h : LayS F W wr base hb g1 d1 g2 d2 u v X Y) (k : Nat) (z : Value) : LayS F W (wr.setCell ⟨g1, k, none⟩ z) base hb g1 d1 g2 d2 u v (X.set k z) Y :=
  ⟨(h.own1.stored k z).1, (one_out wr g1 k z).own h.own2 (fun g hg e => h.ne (by simp [Value.ownBlock] at hg; omega)), h.out.setCell (p := ⟨g1, k, none⟩) h.ok1 z, h.ok1, h.ok2, h.ne, h.m1, h.m2, (one_out wr g1 k z).boxA h.box (fun e => h.m1 e.symm)⟩
theorem LayS.put2 (h : LayS F W wr base hb g1 d1 g2 d2 u v X Y) (k : Nat) (z : Value) : LayS F W (wr.setCell ⟨g2, k, none⟩ z) base hb g1 d1 g2 d2 u v X (Y.set k z) :=
  ⟨(one_out wr g2 k z).own h.own1 (fun g hg e => h.ne (by simp [Value.ownBlock] at hg; omega)), (h.own2.stored k z).1, h.out.setCell (p := ⟨g2, k, none⟩) h.ok2 z, h.ok1, h.ok2, h.ne, h.m1, h.m2, (one_out wr g2 k z).boxA h.box (fun e => h.m2 e.symm)⟩
theorem LayS.done (h : LayS F W wr base hb g1 d1 g2 d2 u v X Y) (hF : F hb) (hb0 : base ≤ hb) {S R : List Int} (hX : X = S.map (Value.int .i64)) (hY : Y = R.map (Value.int .i64)) :
    Hd.Is ⟨hb, some ⟨g1, 0, none⟩, d1, some ⟨g2, 0, none⟩, d2, S, R⟩ base ((wr.setCell ⟨hb, 0, none⟩ (.slice (some ⟨g1, 0, none⟩) d1 d1)).setCell ⟨hb, 1, none⟩ (.slice (some ⟨g2, 0, none⟩) d2 d2)) ∧
    Out F W ((wr.setCell ⟨hb, 0, none⟩ (.slice (some ⟨g1, 0, none⟩) d1 d1)).setCell ⟨hb, 1, none⟩ (.slice (some ⟨g2, 0, none⟩) d2 d2)) := by
  subst hX hY
  have ho := (one_out wr hb 0 (.slice (some ⟨g1, 0, none⟩) d1 d1)).setCell (p := ⟨hb, 1, none⟩) (.inl rfl) (.slice (some ⟨g2, 0, none⟩) d2 d2)
  refine ⟨⟨h.box.set _ _, ho.own h.own1 (fun g hg e => h.m1 (by simp [Value.ownBlock] at hg; omega)), ho.own h.own2 (fun g hg e => h.m2 (by simp [Value.ownBlock] at hg; omega)), hb0, ?_, ?_, ?_, .inr ⟨by simp, by simp⟩⟩,
    (h.out.setCell (p := ⟨hb, 0, none⟩) (.inl hF) _).setCell (p := ⟨hb, 1, none⟩) (.inl hF) _⟩
  · have := h.m1; simp [Value.ownBlock]; exact this
  · have := h.m2; simp [Value.ownBlock]; exact this
  · intro g hg e; have := h.ne; simp [Value.ownBlock] at hg e; omega
end
end Go.Proofs.Ythackmkdicpdeaa
namespace Go.Proofs.Ythackmkdicpdeaa
open Go.RowKit Go.Lib
set_option linter.unusedVariables false
set_option linter.unusedSimpArgs false
attribute [local go_sem] alloc_drewN setCell_drewN

/-- Both hands at a round's head. -/
structure RndI (w wr : World) (hb gb : Nat) (H G : Hd) : Prop where
  h : H.Is w.heap.size wr
  g : G.Is w.heap.size wr
  eh : H.hb = hb
  eg : G.hb = gb
  dis : ∀ j, H.foot j → ¬ G.foot j
  below : Below w.heap.size w wr
theorem RndI.via {w wr wx : World} {hb gb : Nat} {H G : Hd} (h : RndI w wr hb gb H G) (hb' : Below wr.heap.size wr wx) : RndI w wx hb gb H G :=
  ⟨h.h.via hb', h.g.via hb', h.eh, h.eg, h.dis, abvia h.below hb'⟩
theorem RndI.new {w w1 : World} (T : TypeId) (h : Below w.heap.size w w1) : RndI w ((w1.alloc (.cells #[.slice none 0 0, .slice none 0 0] T)).alloc (.cells #[.slice none 0 0, .slice none 0 0] T)) w1.heap.size (w1.heap.size + 1) ⟨w1.heap.size, none, 0, none, 0, [], []⟩ ⟨w1.heap.size + 1, none, 0, none, 0, [], []⟩ := by
  have hs := h.size
  refine ⟨⟨(BoxA.new _ _ _ _).via (abal _ _), World.ownsRow_nil _ _ _ _, World.ownsRow_nil _ _ _ _, hs, by simp [Value.ownBlock], by simp [Value.ownBlock], fun g hg => by simp [Value.ownBlock] at hg, .inl ⟨rfl, rfl⟩⟩,
    ⟨by simpa using BoxA.new (w1.alloc (.cells #[.slice none 0 0, .slice none 0 0] T)) T (.slice none 0 0) (.slice none 0 0), World.ownsRow_nil _ _ _ _, World.ownsRow_nil _ _ _ _, by simp only; omega, by simp [Value.ownBlock], by simp [Value.ownBlock], fun g hg => by simp [Value.ownBlock] at hg, .inl ⟨rfl, rfl⟩⟩, rfl, rfl, ?_, abvia h (abvia (abal _ _) (abal _ _))⟩
  intro j hj hg
  rcases hj with hj | hj | hj
  · rcases hg with hg | hg | hg
    · simp only at hj hg; omega
    · simp [Value.ownBlock] at hg
    · simp [Value.ownBlock] at hg
  · simp [Value.ownBlock] at hj
  · simp [Value.ownBlock] at hj
/-- A block of cells that may be written. -/
structure BoxN (W : World) (b : Nat) (vs : Array Value) : Prop where
  c : ∀ j v, vs[j]? = some v → W.cell? ⟨b, j, none⟩ = some v
  f : ∀ j, W.frozen? ⟨b, j, none⟩ = false
  lt : b < W.heap.size
theorem BoxN.out {F : Nat → Prop} {W W' : World} {b : Nat} {vs : Array Value} (h : BoxN W b vs) (ho : Out F W W') (hn : ¬ F b) : BoxN W' b vs :=
  ⟨fun j v hj => (ho.cell (p := ⟨b, j, none⟩) h.lt hn).trans (h.c j v hj), fun j => (ho.frozen (p := ⟨b, j, none⟩) h.lt hn).trans (h.f j), Nat.lt_of_lt_of_le h.lt ho.size⟩
theorem BoxN.new (W : World) (vs : Array Value) (T : TypeId) : BoxN (W.alloc (.cells vs T)) W.heap.size vs :=
  ⟨fun j v hj => by rw [World.cell?_alloc_at _ _ _ _ rfl]; exact hj, fun j => World.frozen?_alloc_at _ _ _ _ rfl, by simp⟩
theorem BoxN.set34 {W : World} {b : Nat} {c0 c1 c2 c3 c4 c5 c6 : Value} (h : BoxN W b #[c0, c1, c2, c3, c4, c5, c6]) (u v : Value) : BoxN ((W.setCell ⟨b, 3, none⟩ u).setCell ⟨b, 4, none⟩ v) b #[c0, c1, c2, u, v, c5, c6] := by
  have e0 := h.c 0 _ rfl
  have e1 := h.c 1 _ rfl
  have e2 := h.c 2 _ rfl
  have e3 := h.c 3 _ rfl
  have e4 := h.c 4 _ rfl
  have e5 := h.c 5 _ rfl
  have e6 := h.c 6 _ rfl
  refine ⟨fun j x hj => ?_, fun j => ?_, by simpa using h.lt⟩
  · match j, hj with
    | 0, hj => simp at hj; subst hj; simp [go_sem, *]
    | 1, hj => simp at hj; subst hj; simp [go_sem, *]
    | 2, hj => simp at hj; subst hj; simp [go_sem, *]
    | 3, hj => simp at hj; subst hj; simp [go_sem, *]
    | 4, hj => simp at hj; subst hj; simp [go_sem, *]
    | 5, hj => simp at hj; subst hj; simp [go_sem, *]
    | 6, hj => simp at hj; subst hj; simp [go_sem, *]
    | j + 7, hj => simp at hj
  · have := h.f j
    simp [go_sem, *]
theorem BoxN.set56 {W : World} {b : Nat} {c0 c1 c2 c3 c4 c5 c6 : Value} (h : BoxN W b #[c0, c1, c2, c3, c4, c5, c6]) (u v : Value) : BoxN ((W.setCell ⟨b, 5, none⟩ u).setCell ⟨b, 6, none⟩ v) b #[c0, c1, c2, c3, c4, u, v] := by
  have e0 := h.c 0 _ rfl
  have e1 := h.c 1 _ rfl
  have e2 := h.c 2 _ rfl
  have e3 := h.c 3 _ rfl
  have e4 := h.c 4 _ rfl
  have e5 := h.c 5 _ rfl
  have e6 := h.c 6 _ rfl
  refine ⟨fun j x hj => ?_, fun j => ?_, by simpa using h.lt⟩
  · match j, hj with
    | 0, hj => simp at hj; subst hj; simp [go_sem, *]
    | 1, hj => simp at hj; subst hj; simp [go_sem, *]
    | 2, hj => simp at hj; subst hj; simp [go_sem, *]
    | 3, hj => simp at hj; subst hj; simp [go_sem, *]
    | 4, hj => simp at hj; subst hj; simp [go_sem, *]
    | 5, hj => simp at hj; subst hj; simp [go_sem, *]
    | 6, hj => simp at hj; subst hj; simp [go_sem, *]
    | j + 7, hj => simp at hj
  · have := h.f j
    simp [go_sem, *]
theorem two_out (W : World) (b i j : Nat) (u v : Value) : Out (fun q => q = b) W ((W.setCell ⟨b, i, none⟩ u).setCell ⟨b, j, none⟩ v) := (one_out W b i u).setCell (p := ⟨b, j, none⟩) (.inl rfl) v
/-- An array of the call's own behind writes elsewhere. -/
theorem Ar.Own.out {B : Ar} {w w' : World} {base : Nat} {F : Nat → Prop} (h : B.Own w base) (hI : B.Is w) (ho : Out F w w') (hF : ∀ j, base ≤ j → j < w.heap.size → ¬ F j) : B.Own w' base ∧ B.Is w' := by
  have o1 := ho.own h.shp (fun g hg => hF g (own_block h.shp hg).1 (own_block h.shp hg).2)
  have o2 := ho.own h.ats (fun g hg => hF g (own_block h.ats hg).1 (own_block h.ats hg).2)
  exact ⟨⟨o1, o2, h.two⟩, ⟨ls_of_own o1 hI.shp.big hI.shp.rng, ls_of_own o2 hI.ats.big hI.ats.rng⟩⟩
end Go.Proofs.Ythackmkdicpdeaa
namespace Go.Proofs.Ythackmkdicpdeaa
open Go.RowKit Go.Lib
set_option linter.unusedVariables false
set_option linter.unusedSimpArgs false
/-- A row: a slice value over a block of its own, and its cells. -/
structure Rw where
  E : TypeId
  sz : Nat
  ao : Option Addr
  n : Nat
  c : Nat
  xs : List Value
def Rw.v (r : Rw) : Value := .slice r.ao r.n r.c
def Rw.own (r : Rw) (w : World) (base : Nat) : Prop := w.ownsRow base r.E r.sz r.v r.n r.xs
def Rw.nil : Rw := ⟨0, 1, none, 0, 0, []⟩
/-- Rows by names: each is the call's own, no two lie in one block. -/
structure Hold (base : Nat) (w : World) (R : Nat × Nat × Nat → Rw) : Prop where
  own : ∀ t, (R t).own w base
  dis : ∀ t s, t ≠ s → ∀ g, (R t).v.ownBlock = some g → (R s).v.ownBlock ≠ some g
  base : base ≤ w.heap.size
def updR (R : Nat × Nat × Nat → Rw) (t : Nat × Nat × Nat) (r : Rw) : Nat × Nat × Nat → Rw := fun s => if s = t then r else R s
section
variable {base : Nat} {w w' : World} {R : Nat × Nat × Nat → Rw} {t s : Nat × Nat × Nat} {r : Rw}
theorem updR_eq : updR R t r t = r := if_pos rfl
theorem updR_ne (h : s ≠ t) : updR R t r s = R s := if_neg h
theorem Rw.own_nil (w : World) (base : Nat) : Rw.nil.own w base := World.ownsRow_nil _ _ _ _
theorem Rw.nil_block (g : Nat) : Rw.nil.v.ownBlock ≠ some g := fun h => by cases h
theorem grown_of (h : Below w.heap.size w w') (row : Option Nat) : w.grownBy w' row := ⟨h.os, h.tape, h.output, h.size, fun k hk _ => h.block k hk⟩
theorem Rw.own.via (h : r.own w base) (hb : Below w.heap.size w w') : r.own w' base := World.ownsRow.kept h (grown_of hb none) (by cases hv : r.v.ownBlock <;> simp)
theorem Rw.own.lt (h : r.own w base) {g : Nat} (hg : r.v.ownBlock = some g) : base ≤ g ∧ g < w.heap.size := World.ownsRow.lt h g hg
theorem Hold.via (h : Hold base w R) (hb : Below w.heap.size w w') : Hold base w' R := ⟨fun t => (h.own t).via hb, h.dis, Nat.le_trans h.base hb.size⟩
theorem Hold.add (h : Hold base w R) (t : Nat × Nat × Nat) (hr : r.own w base) (hd : ∀ s, s ≠ t → ∀ g, r.v.ownBlock = some g → (R s).v.ownBlock ≠ some g) : Hold base w (updR R t r) := by
  refine ⟨fun s => ?_, fun s s' hs g hg hg' => ?_, h.base⟩
  · by_cases e : s = t
    · subst e; rw [updR_eq]; exact hr
    · rw [updR_ne e]; exact h.own s
  · by_cases e : s = t
    · subst e
      rw [updR_eq] at hg
      rw [updR_ne (fun e => hs e.symm)] at hg'
      exact hd s' (fun e => hs e.symm) g hg hg'
    · rw [updR_ne e] at hg
      by_cases e' : s' = t
      · subst e'
        rw [updR_eq] at hg'
        exact hd s e g hg' hg
      · rw [updR_ne e'] at hg'
        exact h.dis s s' hs g hg hg'
theorem Hold.drop (h : Hold base w R) (t : Nat × Nat × Nat) : Hold base w (updR R t Rw.nil) := h.add t (Rw.own_nil _ _) fun s _ g hg => absurd hg (Rw.nil_block g)
/-- A row is written, or laid anew. -/
theorem Hold.grow (h : Hold base w R) (t : Nat × Nat × Nat) (hr : r.own w' base) (hgr : w.grownBy w' (R t).v.ownBlock) (hl : ∀ g, r.v.ownBlock = some g → (R t).v.ownBlock = some g ∨ w.heap.size ≤ g) : Hold base w' (updR R t r) := by
  have key : ∀ s, s ≠ t → ∀ g, r.v.ownBlock = some g → (R s).v.ownBlock ≠ some g := fun s hs g hg hs' => by
    rcases hl g hg with h1 | h1
    · exact h.dis s t hs g hs' h1
    · have := ((h.own s).lt hs').2; omega
  refine ⟨fun s => ?_, fun s s' hs g hg hg' => ?_, Nat.le_trans h.base hgr.size⟩
  · by_cases e : s = t
    · subst e; rw [updR_eq]; exact hr
    · rw [updR_ne e]
      refine World.ownsRow.kept (h.own s) hgr ?_
      cases hv : (R s).v.ownBlock with
      | none => exact .inl rfl
      | some g => exact .inr fun e' => h.dis s t e g hv e'.symm
  · by_cases e : s = t
    · subst e
      rw [updR_eq] at hg
      rw [updR_ne (fun e => hs e.symm)] at hg'
      exact key s' (fun e => hs e.symm) g hg hg'
    · rw [updR_ne e] at hg
      by_cases e' : s' = t
      · subst e'
        rw [updR_eq] at hg'
        exact key s e g hg' hg
      · rw [updR_ne e'] at hg'
        exact h.dis s s' hs g hg hg'
theorem Hold.new (h : Hold base w R) (t : Nat × Nat × Nat) (hr : r.own w' base) (hb : Below w.heap.size w w') (hl : ∀ g, r.v.ownBlock = some g → w.heap.size ≤ g) : Hold base w' (updR R t r) :=
  (h.via hb).add t hr fun s _ g hg hs => by have := ((h.own s).lt hs).2; have := hl g hg; omega
theorem Hold.alloc (h : Hold base w R) (t : Nat × Nat × Nat) {cs : Array Value} {E : TypeId} {sz n : Nat} (hs : cs.size = n * sz) (hn : n ≤ maxLen) : Hold base (w.alloc (.cells cs E)) (updR R t ⟨E, sz, some ⟨w.heap.size, 0, none⟩, n, n, cs.toList⟩) :=
  h.new t (World.ownsRow_lit w cs n h.base hn hs) (abal _ _) fun g hg => by simp [Rw.v, Value.ownBlock] at hg; omega
/-- The two rows of an array that a call made. -/
def rowS (A : Ar) : Rw := ⟨3, 1, A.sa, A.sn, A.sc, A.s.map (Value.int .i64)⟩
def rowA (A : Ar) : Rw := ⟨2, 1, A.aa, A.an, A.ac, A.a.map (Value.int .i64)⟩
theorem Hold.made (h : Hold base w R) {B : Ar} (hO : B.Own w' w.heap.size) (hb : Below w.heap.size w w') (t1 t2 : Nat × Nat × Nat) (h12 : t1 ≠ t2) : Hold base w' (updR (updR R t1 (rowS B)) t2 (rowA B)) := by
  refine (h.new t1 (r := rowS B) (own_mono hO.shp h.base) hb (fun g hg => (own_block hO.shp hg).1)).add t2 (own_mono hO.ats h.base) (fun s hs g hg hs' => ?_)
  have hg1 := (own_block hO.ats hg).1
  by_cases e : s = t1
  · subst e
    rw [updR_eq] at hs'
    exact hO.two g hs' hg
  · rw [updR_ne e] at hs'
    have := ((h.own s).lt hs').2
    omega
theorem Hold.move (h : Hold base w R) (t s : Nat × Nat × Nat) (hts : s ≠ t) : Hold base w (updR (updR R t Rw.nil) s (R t)) :=
  (h.drop t).add s (h.own t) fun s' hs g hg hs' => by
    by_cases e : s' = t
    · subst e; rw [updR_eq] at hs'; exact Rw.nil_block g hs'
    · rw [updR_ne e] at hs'; exact h.dis t s' (fun e' => e e'.symm) g hg hs'
section
variable {E : TypeId} {sz g n c : Nat} {xs : List Value}
theorem Hold.cell (h : Hold base w R) (e : R t = ⟨E, sz, some ⟨g, 0, none⟩, n, c, xs⟩) (j : Nat) (v : Value) (hj : xs[j]? = some v) : w.cell? ⟨g, j, none⟩ = some v := by
  have ho := h.own t
  rw [e] at ho
  have hlt : j < n * sz := by
    have h1 := ho.1
    simp only at h1
    rw [← h1]
    exact (List.getElem?_eq_some_iff.1 hj).1
  exact (World.ownsRow.cellAt ho j hlt).trans hj
theorem Hold.frozen (h : Hold base w R) (e : R t = ⟨E, sz, some ⟨g, 0, none⟩, n, c, xs⟩) (j : Nat) : w.frozen? ⟨g, j, none⟩ = false := by
  have ho := h.own t
  rw [e] at ho
  exact World.ownsRow.frozenAt ho j
theorem Hold.lt (h : Hold base w R) (e : R t = ⟨E, sz, some ⟨g, 0, none⟩, n, c, xs⟩) : base ≤ g ∧ g < w.heap.size := by
  have ho := h.own t
  rw [e] at ho
  exact ho.lt rfl
theorem Hold.put (h : Hold base w R) (e : R t = ⟨E, sz, some ⟨g, 0, none⟩, n, c, xs⟩) (j : Nat) (u : Value) : Hold base (w.setCell ⟨g, j, none⟩ u) (updR R t ⟨E, sz, some ⟨g, 0, none⟩, n, c, xs.set j u⟩) := by
  have ho := h.own t
  rw [e] at ho
  obtain ⟨h1, h2⟩ := World.ownsRow.stored ho j u
  refine h.grow t h1 (by rw [e]; exact h2) fun k hk => ?_
  rw [e]
  exact .inl hk
theorem Hold.putB (h : Hold base w R) (e : R t = ⟨E, sz, some ⟨g, 0, none⟩, n, c, xs⟩) (j : Nat) (u : Value) : Below base w (w.setCell ⟨g, j, none⟩ u) := by
  have ho := h.own t
  rw [e] at ho
  exact (Below.refl _ _).grown (World.ownsRow.stored ho j u).2 h.base (fun k hk => by cases hk; exact (h.lt e).1)
theorem Hold.cap (h : Hold base w R) {ao : Option Addr} (e : R t = ⟨E, sz, ao, n, c, xs⟩) : n ≤ c ∧ c ≤ maxLen ∧ xs.length = n * sz ∧ (ao = none → c = 0) ∧ (0 < c → ∃ g, ao = some ⟨g, 0, none⟩) := by
  have ho := h.own t
  rw [e] at ho
  rcases ho with ⟨h1, h2 | ⟨g, cap, cur, hv, hg, hh, hc, hm, hs, ht⟩⟩
  · simp only [Rw.v] at h2
    obtain ⟨h2, h3⟩ := h2
    cases h2
    exact ⟨Nat.le_refl _, Nat.zero_le _, h1, fun _ => rfl, fun h => absurd h (by simp)⟩
  · simp only [Rw.v] at hv hc hm
    cases hv
    exact ⟨hc, hm, h1, fun h => (by cases h), fun _ => ⟨g, rfl⟩⟩
theorem Hold.ls (h : Hold base w R) {ao : Option Addr} {zs : List Int} (e : R t = ⟨E, 1, ao, n, c, zs.map (Value.int .i64)⟩) (hb : n * 8 ≤ 140737488351232) (hr : ∀ i, -9223372036854775808 ≤ zs.getD i 0 ∧ zs.getD i 0 ≤ 9223372036854775807) : Ls w ao n c zs := by
  have ho := h.own t
  rw [e] at ho
  exact ls_of_own ho hb hr
end
theorem own_form' {E : TypeId} {sz : Nat} {v : Value} {n : Nat} {xs : List Value} (h : w.ownsRow base E sz v n xs) : ∃ ao c, v = .slice ao n c ∧ (∀ g, v.ownBlock = some g → ao = some ⟨g, 0, none⟩) := by
  rcases h.2 with ⟨rfl, rfl⟩ | ⟨g, cap, cur, rfl, _⟩
  · exact ⟨_, _, rfl, fun g hg => by simp [Value.ownBlock] at hg⟩
  · exact ⟨_, _, rfl, fun g' hg => by simp [Value.ownBlock] at hg; rw [hg]⟩
section
variable {P : Program}
theorem Hold.run_append (h : Hold base w R) (tg : Nat × Nat × Nat) (t ty e : TypeId) (i : TypeInfo) (z : Value) (size bytes : Nat) (ht : P.underlying t = some (.slice e)) (hi : P.info? e = some i) (hz : i.zero = some z)
    (hsize : i.size = size) (hby : i.bytes = bytes) (hzs : z.cells.size = size) (hsz : 0 < size)
    {ao : Option Addr} {n c : Nat} {xs : List Value} (hr : R tg = ⟨e, size, ao, n, c, xs⟩)
    (a : Addr) (m c' : Nat) (news : List Value) (hl : news.length = m * size) (hnews : ∀ j u, news[j]? = some u → w.cell? (a.add j) = some u) (h1 : ∀ u ∈ news, u.oneCell' = true)
    (h63 : n + m ≤ maxLen) (hbytes : (n + m) * bytes ≤ 140737488355328) :
    ∃ bo d w', (Builtin.append_ #[t, t] ty #[.slice ao n c, .slice (some a) m c']).run P w = .ok (.slice bo (n + m) d) w' ∧ Hold base w' (updR R tg ⟨e, size, bo, n + m, d, xs ++ news⟩) ∧ Below base w w' := by
  have ho := h.own tg
  rw [hr] at ho
  obtain ⟨v', w', g1, g2, g3, g4, g5⟩ := Go.run_append_own_at (P := P) w base t ty e i z size bytes ht hi hz hsize hby hzs hsz _ n xs ho a m c' news hl hnews h1 h63 hbytes h.base
  obtain ⟨bo, d, rfl, hf⟩ := own_form' g2
  refine ⟨bo, d, w', g1, h.grow tg g2 (by rw [hr]; exact g3) (fun g hg => ?_), (Below.refl _ _).grown g3 h.base fun k hk => (Rw.own.lt ho hk).1⟩
  have hg' : (Value.slice bo (n + m) d).ownBlock = some g := hg
  rcases g5 with g5 | g5
  · left; rw [hr]; show (Value.slice ao n c).ownBlock = some g; rw [← hg']; exact g5.symm
  · right; rw [hg'] at g5; cases g5; exact Nat.le_refl _
theorem Hold.wp_append (h : Hold base w R) {o : Oper} {a : Act} {K : Act → World → Prop} {Q : Exit → Act → World → Prop} (s x : Operand) (t : TypeId)
    (ho : o.op = .call { callee := .builtin .append, args := #[s, x], argTypes := #[t, t] })
    (tg : Nat × Nat × Nat) (e : TypeId) (i : TypeInfo) (z : Value) (size bytes : Nat) (ht : P.underlying t = some (.slice e)) (hi : P.info? e = some i) (hz : i.zero = some z)
    (hsize : i.size = size) (hby : i.bytes = bytes) (hzs : z.cells.size = size) (hsz : 0 < size)
    {ao : Option Addr} {n c : Nat} {xs : List Value} (hr : R tg = ⟨e, size, ao, n, c, xs⟩) (hs : a.eval s = .slice ao n c)
    (ad : Addr) (m c' : Nat) (hx : a.eval x = .slice (some ad) m c') (news : List Value) (hl : news.length = m * size) (hnews : ∀ j u, news[j]? = some u → w.cell? (ad.add j) = some u) (h1 : ∀ u ∈ news, u.oneCell' = true)
    (h63 : n + m ≤ maxLen) (hbytes : (n + m) * bytes ≤ 140737488355328)
    (hk : ∀ bo d w', Hold base w' (updR R tg ⟨e, size, bo, n + m, d, xs ++ news⟩) → Below base w w' → K (a.put o.dst (.slice bo (n + m) d)) w') : o.wp P a w K Q := by
  obtain ⟨bo, d, w', hrun, h2, h3⟩ := h.run_append (P := P) tg t o.type e i z size bytes ht hi hz hsize hby hzs hsz hr ad m c' news hl hnews h1 h63 hbytes
  unfold Oper.wp execOp
  simp only [ho, resolve, invoke, builtin, Sem.run_bind, Sem.run_pure, Result.andThen_ok, List.map_toArray, List.map_cons, List.map_nil, hs, hx, hrun]
  exact hk bo d w' h2 h3
theorem Hold.step_append (h : Hold base w R) {ops : Array Oper} {o : Oper} {a : Act} {K : Act → World → Prop} {Q : Exit → Act → World → Prop} {Z : Prop} (hgd : o.guard = none) (s x : Operand) (t : TypeId)
    (ho : o.op = .call { callee := .builtin .append, args := #[s, x], argTypes := #[t, t] })
    (tg : Nat × Nat × Nat) (e : TypeId) (i : TypeInfo) (z : Value) (size bytes : Nat) (ht : P.underlying t = some (.slice e)) (hi : P.info? e = some i) (hz : i.zero = some z)
    (hsize : i.size = size) (hby : i.bytes = bytes) (hzs : z.cells.size = size) (hsz : 0 < size)
    {ao : Option Addr} {n c : Nat} {xs : List Value} (hr : R tg = ⟨e, size, ao, n, c, xs⟩) (hs : a.eval s = .slice ao n c)
    (ad : Addr) (m c' : Nat) (hx : a.eval x = .slice (some ad) m c') (news : List Value) (hl : news.length = m * size) (hnews : ∀ j u, news[j]? = some u → w.cell? (ad.add j) = some u) (h1 : ∀ u ∈ news, u.oneCell' = true)
    (h63 : n + m ≤ maxLen) (hbytes : (n + m) * bytes ≤ 140737488355328)
    (hk : ∀ bo d w', Hold base w' (updR R tg ⟨e, size, bo, n + m, d, xs ++ news⟩) → Below base w w' → K (a.put o.dst (.slice bo (n + m) d)) w') :
    if Region.wanted o (yielded ops a.tmps) = true then Oper.wp P o a w K Q else Z := by
  have hw : Region.wanted o (yielded ops a.tmps) = true := by simp [Region.wanted, hgd]
  rw [if_pos hw]
  exact h.wp_append s x t ho tg e i z size bytes ht hi hz hsize hby hzs hsz hr hs ad m c' hx news hl hnews h1 h63 hbytes hk
/-- One more cell where there is room: in place. -/
theorem Hold.run_room (h : Hold base w R) (tg : Nat × Nat × Nat) (t ty e : TypeId) (i : TypeInfo) (ht : P.underlying t = some (.slice e)) (hi : P.info? e = some i) (hsize : i.size = 1)
    {g n c : Nat} {xs : List Value} (hr : R tg = ⟨e, 1, some ⟨g, 0, none⟩, n, c, xs⟩) (hroom : n + 1 ≤ c)
    (a : Addr) (c' : Nat) (u : Value) (hnew : w.cell? a = some u) (ha : a.add 0 = a) (h1 : u.oneCell' = true) :
    ∃ w', (Builtin.append_ #[t, t] ty #[.slice (some ⟨g, 0, none⟩) n c, .slice (some a) 1 c']).run P w = .ok (.slice (some ⟨g, 0, none⟩) (n + 1) c) w' ∧ Hold base w' (updR R tg ⟨e, 1, some ⟨g, 0, none⟩, n + 1, c, xs ++ [u]⟩) ∧ Below base w w' := by
  have ho := h.own tg
  rw [hr] at ho
  have hlt := h.lt hr
  obtain ⟨hl, h2 | ⟨g', cap, cur, hv, hg, hh, hc, hm, hs, htk⟩⟩ := ho
  · simp [Rw.v] at h2
  · simp only [Rw.v] at hv hl hc htk
    cases hv
    rw [Nat.mul_one] at hs htk hl
    have hnews : ∀ j v, [u][j]? = some v → w.cell? (a.add j) = some v := fun j v hj => by
      cases j with
      | zero => simp at hj; subst hj; rw [ha]; exact hnew
      | succ j => simp at hj
    have hrun := run_append_room (P := P) w t ty e i ht hi g n c cur hh a 1 c' [u] (by rw [hsize]; rfl) hnews (by simpa using h1) hroom (by rw [hsize]; simp; omega)
    rw [hsize, Nat.mul_one] at hrun
    refine ⟨_, hrun, ?_, ?_⟩
    · refine h.grow tg ⟨by simp [hl], .inr ⟨g, c, _, rfl, hg, setRow_heap w g cur _ e _ hh, hroom, hm, ?_, ?_⟩⟩ ⟨rfl, rfl, rfl, by simp, fun k _ hk => setRow_other w g k _ (fun e' => hk (by rw [hr]; simp [Rw.v, Value.ownBlock, e']))⟩ (fun k hk => by rw [hr]; exact .inl hk)
      · simp only [List.size_toArray, List.length_append, List.length_take, List.length_drop, Array.length_toList, List.length_singleton]
        omega
      · simp only [Nat.mul_one]
        rw [htk, show n + 1 = (xs ++ [u]).length by simp [hl]]
        exact List.take_left
    · exact (Below.refl _ _).grown (row := some g) ⟨rfl, rfl, rfl, by simp, fun k _ hk => setRow_other w g k _ (fun e' => hk (by simp [e']))⟩ h.base (fun k hk => by cases hk; exact hlt.1)
theorem Hold.wpList_room (h : Hold base w R) {ops : Array Oper} {rest : List Oper} {o : Oper} {a : Act} {Q : Exit → Act → World → Prop} (hgd : o.guard = none) (s x : Operand) (t : TypeId)
    (ho : o.op = .call { callee := .builtin .append, args := #[s, x], argTypes := #[t, t] })
    (tg : Nat × Nat × Nat) (e : TypeId) (i : TypeInfo) (ht : P.underlying t = some (.slice e)) (hi : P.info? e = some i) (hsize : i.size = 1)
    {g n c : Nat} {xs : List Value} (hr : R tg = ⟨e, 1, some ⟨g, 0, none⟩, n, c, xs⟩) (hroom : n + 1 ≤ c) (hs : a.eval s = .slice (some ⟨g, 0, none⟩) n c)
    (ad : Addr) (c' : Nat) (hx : a.eval x = .slice (some ad) 1 c') (u : Value) (hnew : w.cell? ad = some u) (ha : ad.add 0 = ad) (h1 : u.oneCell' = true)
    (hk : ∀ w', Hold base w' (updR R tg ⟨e, 1, some ⟨g, 0, none⟩, n + 1, c, xs ++ [u]⟩) → Below base w w' → wpList P ops Q rest (a.put o.dst (.slice (some ⟨g, 0, none⟩) (n + 1) c)) w') : wpList P ops Q (o :: rest) a w :=
  wpList_plain hgd fun _ hK => by
    obtain ⟨w', hrun, h2, h3⟩ := h.run_room (P := P) tg t o.type e i ht hi hsize hr hroom ad c' u hnew ha h1
    unfold Oper.wp execOp
    simp only [ho, resolve, invoke, builtin, Sem.run_bind, Sem.run_pure, Result.andThen_ok, List.map_toArray, List.map_cons, List.map_nil, hs, hx, hrun]
    exact hK _ _ (hk w' h2 h3)
end
end
end Go.Proofs.Ythackmkdicpdeaa
namespace Go.Proofs.Ythackmkdicpdeaa
open Go.RowKit Go.Lib
set_option linter.unusedVariables false
set_option linter.unusedSimpArgs false
theorem Rw.own.mono {r : Rw} {w : World} {b b' : Nat} (h : r.own w b) (hb : b' ≤ b) : r.own w b' := by
  obtain ⟨h1, h2 | ⟨g, cap, cur, hv, hg, h3⟩⟩ := h
  · exact ⟨h1, .inl h2⟩
  · exact ⟨h1, .inr ⟨g, cap, cur, hv, Nat.le_trans hb hg, h3⟩⟩
theorem Hold.rows0 (w : World) : Hold w.heap.size w (fun _ => Rw.nil) := ⟨fun _ => Rw.own_nil _ _, fun _ _ _ g hg => absurd hg (Rw.nil_block g), Nat.le_refl _⟩
theorem Hold.merge {base : Nat} {w w' : World} {R R2 : Nat × Nat × Nat → Rw} (h : Hold base w R) (h2 : Hold w.heap.size w' R2) (hb : Below w.heap.size w w') (p : Nat × Nat × Nat → Bool) (g : Nat × Nat × Nat → Nat × Nat × Nat)
    (inj : ∀ t s, p t = true → p s = true → g t = g s → t = s) : Hold base w' (fun t => if p t = true then R2 (g t) else R t) := by
  refine ⟨fun t => ?_, fun t s hts k hk hk' => ?_, Nat.le_trans h.base hb.size⟩
  · by_cases e : p t = true
    · simp only [e, if_true]; exact (h2.own _).mono h.base
    · simp only [e, if_false]; exact (h.own t).via hb
  · by_cases e : p t = true <;> by_cases e' : p s = true <;> simp only [e, e', if_true, if_false] at hk hk'
    · exact h2.dis (g t) (g s) (fun q => hts (inj t s e e' q)) k hk hk'
    · have q1 := ((h2.own _).lt hk).1
      have q2 := ((h.own s).lt hk').2
      omega
    · have q1 := ((h2.own _).lt hk').1
      have q2 := ((h.own t).lt hk).2
      omega
    · exact h.dis t s hts k hk hk'
end Go.Proofs.Ythackmkdicpdeaa

/- The hands of layer 2 (abacuslaw2): many lists laid in memory that is used anew. The hands of layer 2 (abacuslaw2): list. The hands of layer 2 (abacuslaw2): listKept; many lists that lie in the hands, read as such. -/
import Derived.Test.YtdedbfbkakofgaaShapeAllM10
import Derived.Test.YtdedbfbkakofgaaShapeAllM11
import Derived.Deep.RegionLaw
namespace Go.Proofs.Ytdedbfbkakofgaa
open Go.RowKit Go.Lib
set_option linter.unusedVariables false
set_option linter.unusedSimpArgs false
attribute [local go_sem] alloc_drewN setCell_drewN
def lenW : Value → Nat
  | .slice _ n _ => n
  | _ => 0
section
variable {base : Nat} {w : World} {R : Nat × Nat × Nat → Rw} {o hb : Nat}
theorem Hold.wpList_app {P : Program} (h : Hold base w R) {ops : Array Oper} {rest : List Oper} {o : Oper} {a : Act} {Q : Exit → Act → World → Prop} (hgd : o.guard = none) (s x : Operand) (t : TypeId)
    (ho : o.op = .call { callee := .builtin .append, args := #[s, x], argTypes := #[t, t] })
    (tg : Nat × Nat × Nat) (e : TypeId) (i : TypeInfo) (z : Value) (size bytes : Nat) (ht : P.underlying t = some (.slice e)) (hi : P.info? e = some i) (hz : i.zero = some z)
    (hsize : i.size = size) (hby : i.bytes = bytes) (hzs : z.cells.size = size) (hsz : 0 < size)
    {ao : Option Addr} {n c : Nat} {xs : List Value} (hr : R tg = ⟨e, size, ao, n, c, xs⟩) (hs : a.eval s = .slice ao n c)
    (ad : Addr) (m c' : Nat) (hx : a.eval x = .slice (some ad) m c') (news : List Value) (hl : news.length = m * size) (hnews : ∀ j u, news[j]? = some u → w.cell? (ad.add j) = some u) (h1 : ∀ u ∈ news, u.oneCell' = true)
    (h63 : n + m ≤ maxLen) (hbytes : (n + m) * bytes ≤ 140737488355328)
    (hk : ∀ bo d w', Hold base w' (updR R tg ⟨e, size, bo, n + m, d, xs ++ news⟩) → Below base w w' → wpList P ops Q rest (a.put o.dst (.slice bo (n + m) d)) w') : wpList P ops Q (o :: rest) a w :=
  wpList_plain hgd fun _ hK => h.wp_append s x t ho tg e i z size bytes ht hi hz hsize hby hzs hsz hr hs ad m c' hx news hl hnews h1 h63 hbytes fun bo d w' h1 h2 => hK _ _ (hk bo d w' h1 h2)
/-- append of no slice at all. -/
theorem wpList_app0 {P : Program} {ops : Array Oper} {rest : List Oper} {o : Oper} {a : Act} {Q : Exit → Act → World → Prop} (hgd : o.guard = none) (s x : Operand) (t : TypeId)
    (ho : o.op = .call { callee := .builtin .append, args := #[s, x], argTypes := #[t, t] })
    (e : TypeId) (i : TypeInfo) (ht : P.underlying t = some (.slice e)) (hi : P.info? e = some i) {sz : Nat} {ao : Option Addr} {n c c' : Nat} {xs : List Value} (hown : w.ownsRow base e sz (.slice ao n c) n xs) (hs : a.eval s = .slice ao n c)
    (hx : a.eval x = .slice none 0 c') (hk : wpList P ops Q rest (a.put o.dst (.slice ao n c)) w) : wpList P ops Q (o :: rest) a w :=
  wpList_plain hgd fun _ hK => by
    have hrun : (Builtin.append_ #[t, t] o.type #[.slice ao n c, .slice none 0 c']).run P w = .ok (.slice ao n c) w := by
      rcases hown.2 with ⟨hv, h0⟩ | ⟨g, cap, cur, hv, hbg, hg, hnc, hcm, hcs, htake⟩
      · cases hv
        simp [Builtin.append_, run_underlying ht, sizeOf, typeInfo, hi, Builtin.lenOf, Builtin.firstCells, loadCells, loadCellsFrom]
      · cases hv
        simp [Builtin.append_, run_underlying ht, sizeOf, typeInfo, hi, Builtin.lenOf, Builtin.firstCells, storeCells, hnc]
    unfold Oper.wp execOp
    simp only [ho, resolve, invoke, builtin, Sem.run_bind, Sem.run_pure, Result.andThen_ok, List.map_toArray, List.map_cons, List.map_nil, hs, hx, hrun]
    exact hK _ _ hk
/-- A row of numbers at its whole length. -/
def Full (r : Rw) : Prop := ∃ (ao : Option Addr) (d : Nat) (S : List Int), r = ⟨3, 1, ao, d, d, S.map (Value.int .i64)⟩
/-- The hands' rows. -/
structure Hn (R : Nat × Nat × Nat → Rw) (o hb M : Nat) : Prop where
  obj : R (o, 0, 0) = ⟨31, 4, some ⟨hb, 0, none⟩, 1, 1, [(R (o, 1, 0)).v, (R (o, 2, 0)).v, (R (o, 3, 0)).v, (R (o, 5, 0)).v]⟩
  one : Full (R (o, 1, 0))
  two : Full (R (o, 2, 0))
  many : ∃ ao c, R (o, 3, 0) = ⟨27, 1, ao, M, c, (List.range M).map fun k => (R (o, 4, k)).v⟩
  els : ∀ k, k < M → Full (R (o, 4, k))
  outer : ∃ ao n c xs, R (o, 5, 0) = ⟨25, 1, ao, n, c, xs⟩
  bnd : M ≤ 1000000
theorem Hn.congr {R' : Nat × Nat × Nat → Rw} {M : Nat} (h : Hn R o hb M) (hR : ∀ t, t.1 = o → R' t = R t) : Hn R' o hb M := by
  refine ⟨?_, ?_, ?_, ?_, ?_, ?_, h.bnd⟩
  · rw [hR _ rfl, hR _ rfl, hR _ rfl, hR _ rfl, hR _ rfl]; exact h.obj
  · rw [hR _ rfl]; exact h.one
  · rw [hR _ rfl]; exact h.two
  · obtain ⟨ao, c, e⟩ := h.many
    refine ⟨ao, c, ?_⟩
    rw [hR _ rfl, e]
    congr 1
    exact List.map_congr_left fun k _ => by rw [hR _ rfl]
  · intro k hk; rw [hR _ rfl]; exact h.els k hk
  · obtain ⟨ao, n, c, xs, e⟩ := h.outer
    exact ⟨ao, n, c, xs, by rw [hR _ rfl, e]⟩
end
end Go.Proofs.Ytdedbfbkakofgaa

namespace Go.Proofs.Ytdedbfbkakofgaa
open Go.RowKit Go.Lib
set_option linter.unusedVariables false
set_option linter.unusedSimpArgs false
attribute [local go_sem] alloc_drewN setCell_drewN
section
variable {base : Nat} {w : World} {R : Nat × Nat × Nat → Rw} {o hb : Nat}
/-- The first i of many lists are laid; the outer row holds them, two marks behind all. -/
def ListI (base : Nat) (w : World) (R : Nat × Nat × Nat → Rw) (o hb n : Nat) (zss : List (List Int)) (og oc i : Nat) (w' : World) : Prop :=
  ∃ (M' l1 l2 : Nat) (gk dk : Nat → Nat) (ys : List Value) (R' : Nat × Nat × Nat → Rw), Hold base w' R' ∧ Hn R' o hb M' ∧ n ≤ M' ∧
    R' (o, 5, 0) = ⟨25, 1, some ⟨og, 0, none⟩, n + 2, oc, ys⟩ ∧ (∀ k, k < i → ys[k]? = some (.slice (some ⟨gk k, 0, none⟩) (zss.getD k []).length (dk k))) ∧
    ys[n]? = some (.slice (some ⟨l1, 0, none⟩) 1 1) ∧ ys[n + 1]? = some (.slice (some ⟨l2, 0, none⟩) 1 1) ∧
    (∀ k, k < i → R' (o, 4, k) = ⟨3, 1, some ⟨gk k, 0, none⟩, dk k, dk k, (mkd mkS (zss.getD k []) (dk k)).map (Value.int .i64)⟩ ∧ (zss.getD k []).length + 2 ≤ dk k) ∧
    R' (o, 6, 0) = ⟨3, 1, some ⟨l1, 0, none⟩, 1, 1, [.int .i64 (-7701)]⟩ ∧ R' (o, 6, 1) = ⟨3, 1, some ⟨l2, 0, none⟩, 1, 1, [.int .i64 (-7702)]⟩ ∧
    R' (o, 1, 0) = R (o, 1, 0) ∧ R' (o, 2, 0) = R (o, 2, 0) ∧ (∀ t, t.1 ≠ o → R' t = R t) ∧ Below base w w'
/-- The hands have room for n lists. -/
def ManyI (base : Nat) (w : World) (R : Nat × Nat × Nat → Rw) (o hb : Nat) (M : Nat) (w' : World) : Prop :=
  ∃ R' : Nat × Nat × Nat → Rw, Hold base w' R' ∧ Hn R' o hb M ∧ R' (o, 1, 0) = R (o, 1, 0) ∧ R' (o, 2, 0) = R (o, 2, 0) ∧ (∀ t, t.1 ≠ o → R' t = R t) ∧ Below base w w'
/-- A hand more. -/
theorem Hn.more {R' : Nat × Nat × Nat → Rw} {M : Nat} (h : Hn R o hb M) (hM : M + 1 ≤ 1000000) {bo : Option Addr} {d : Nat}
    (e0 : R' (o, 0, 0) = ⟨31, 4, some ⟨hb, 0, none⟩, 1, 1, [(R (o, 1, 0)).v, (R (o, 2, 0)).v, .slice bo (M + 1) d, (R (o, 5, 0)).v]⟩)
    (e1 : R' (o, 1, 0) = R (o, 1, 0)) (e2 : R' (o, 2, 0) = R (o, 2, 0)) (e3 : R' (o, 3, 0) = ⟨27, 1, bo, M + 1, d, ((List.range M).map fun k => (R (o, 4, k)).v) ++ [.slice none 0 0]⟩)
    (e4 : R' (o, 4, M) = ⟨3, 1, none, 0, 0, []⟩) (e5 : R' (o, 5, 0) = R (o, 5, 0)) (h4 : ∀ k, k < M → R' (o, 4, k) = R (o, 4, k)) : Hn R' o hb (M + 1) := by
  refine ⟨by rw [e0, e1, e2, e3, e5]; rfl, by rw [e1]; exact h.one, by rw [e2]; exact h.two, ⟨bo, d, ?_⟩, fun k hk => ?_, ?_, hM⟩
  · rw [e3, List.range_succ, List.map_append, List.map_singleton, e4]
    congr 2
    exact List.map_congr_left fun k hk => by rw [h4 k (List.mem_range.1 hk)]
  · by_cases e : k = M
    · subst e; exact ⟨none, 0, [], e4⟩
    · rw [h4 k (by omega)]; exact h.els k (by omega)
  · obtain ⟨ao, n, c, xs, e⟩ := h.outer
    exact ⟨ao, n, c, xs, by rw [e5, e]⟩
/-- A hand's list is laid anew. -/
theorem Hn.laid {R' : Nat × Nat × Nat → Rw} {M : Nat} (h : Hn R o hb M) {i : Nat} (hi : i < M) {ao : Option Addr} {c : Nat} (l3 : R (o, 3, 0) = ⟨27, 1, ao, M, c, (List.range M).map fun k => (R (o, 4, k)).v⟩)
    {g d : Nat} {S : List Int} (e0 : R' (o, 0, 0) = R (o, 0, 0)) (e1 : R' (o, 1, 0) = R (o, 1, 0)) (e2 : R' (o, 2, 0) = R (o, 2, 0))
    (e3 : R' (o, 3, 0) = ⟨27, 1, ao, M, c, ((List.range M).map fun k => (R (o, 4, k)).v).set i (.slice (some ⟨g, 0, none⟩) d d)⟩)
    (e4 : R' (o, 4, i) = ⟨3, 1, some ⟨g, 0, none⟩, d, d, S.map (Value.int .i64)⟩) {oo : Option Addr} {on oc : Nat} {ys ys' : List Value} (o5 : R (o, 5, 0) = ⟨25, 1, oo, on, oc, ys⟩) (e5 : R' (o, 5, 0) = ⟨25, 1, oo, on, oc, ys'⟩)
    (h4 : ∀ k, k ≠ i → R' (o, 4, k) = R (o, 4, k)) : Hn R' o hb M := by
  have key : ((List.range M).map fun k => (R (o, 4, k)).v).set i (.slice (some ⟨g, 0, none⟩) d d) = (List.range M).map fun k => (R' (o, 4, k)).v := by
    apply List.ext_getElem?
    intro j
    rw [List.getElem?_set]
    by_cases e : i = j
    · subst e
      simp [hi, e4, Rw.v]
    · rw [if_neg e, List.getElem?_map, List.getElem?_map]
      cases hj : (List.range M)[j]? with
      | none => rfl
      | some q =>
        have hq : q = j := by
          obtain ⟨h1, h2⟩ := List.getElem?_eq_some_iff.1 hj
          rw [List.getElem_range] at h2; exact h2.symm
        subst hq
        simp [h4 q (fun e' => e e'.symm)]
  have hob := h.obj
  refine ⟨?_, by rw [e1]; exact h.one, by rw [e2]; exact h.two, ⟨ao, c, by rw [e3, key]⟩, fun k hk => ?_, ⟨oo, on, oc, ys', e5⟩, h.bnd⟩
  · rw [e0, hob, e1, e2, e3, e5, l3, o5]; rfl
  · by_cases e : k = i
    · subst e; exact ⟨_, _, _, e4⟩
    · rw [h4 k e]; exact h.els k hk
theorem add_off (b off j : Nat) : (⟨b, off, none⟩ : Addr).add j = ⟨b, off + j, none⟩ := by
  unfold Addr.add
  split
  · rename_i h; rw [h, Nat.add_zero]
  · rfl
theorem Hold.wpList_lss {P : Program} (h : Hold base w R) {ops : Array Oper} {rest : List Oper} {o : Oper} {a : Act} {Q : Exit → Act → World → Prop} (hgd : o.guard = none) (s x : Operand) (t : TypeId)
    (ho : o.op = .call { callee := .builtin .append, args := #[s, x], argTypes := #[t, t] })
    (tg : Nat × Nat × Nat) (e : TypeId) (i : TypeInfo) (z : Value) (bytes : Nat) (ht : P.underlying t = some (.slice e)) (hi : P.info? e = some i) (hz : i.zero = some z)
    (hsize : i.size = 1) (hby : i.bytes = bytes) (hzs : z.cells.size = 1)
    {ao : Option Addr} {c : Nat} (hr : R tg = ⟨e, 1, ao, 0, c, []⟩) (hs : a.eval s = .slice ao 0 c)
    {la : Option Addr} {m lc : Nat} {zss : List (List Int)} (hx : a.eval x = .slice la m lc) (hL : Lss w la m lc zss) (h63 : m ≤ maxLen) (hbytes : m * bytes ≤ 140737488355328)
    (hk : ∀ bo d vs w', vs.length = m → Hold base w' (updR R tg ⟨e, 1, bo, m, d, vs⟩) → Below base w w' → wpList P ops Q rest (a.put o.dst (.slice bo m d)) w') : wpList P ops Q (o :: rest) a w := by
  cases la with
  | none =>
    have hm : m = 0 := by
      by_cases h0 : 0 < m
      · obtain ⟨b, off, e1, -⟩ := hL.mem h0; cases e1
      · omega
    subst hm
    have hown := h.own tg
    rw [hr] at hown
    refine wpList_app0 hgd s x t ho e i ht hi hown hs hx ?_
    exact hk ao c [] w rfl (by rw [updS_self hr]; exact h) (Below.refl _ _)
  | some ad =>
    obtain ⟨vs, hv1, hv2, hv3⟩ : ∃ vs : List Value, vs.length = m ∧ (∀ j u, vs[j]? = some u → w.cell? (ad.add j) = some u) ∧ ∀ u ∈ vs, u.oneCell' = true := by
      by_cases h0 : 0 < m
      · obtain ⟨b, off, e1, -, hc⟩ := hL.mem h0
        cases e1
        have hsome : ∀ j, j < m → ∃ ai ni ci, w.cell? ⟨b, off + j, none⟩ = some (.slice ai ni ci) := fun j hj => by
          obtain ⟨ai, ni, ci, h1, -⟩ := hc j hj; exact ⟨ai, ni, ci, h1⟩
        have hget : ∀ j u, ((List.range m).map fun j => (w.cell? ⟨b, off + j, none⟩).getD undef)[j]? = some u → j < m ∧ u = (w.cell? ⟨b, off + j, none⟩).getD undef := fun j u hj => by
          rw [List.getElem?_map] at hj
          by_cases hjm : j < m
          · rw [List.getElem?_range hjm] at hj
            simp only [Option.map_some, Option.some.injEq] at hj
            exact ⟨hjm, hj.symm⟩
          · rw [List.getElem?_eq_none (by simpa using hjm)] at hj; cases hj
        refine ⟨(List.range m).map fun j => (w.cell? ⟨b, off + j, none⟩).getD undef, by simp, fun j u hj => ?_, fun u hu => ?_⟩
        · obtain ⟨hjm, rfl⟩ := hget j u hj
          obtain ⟨ai, ni, ci, h1⟩ := hsome j hjm
          rw [add_off, h1]; rfl
        · obtain ⟨j, hj⟩ := List.getElem?_of_mem hu
          obtain ⟨hjm, rfl⟩ := hget j u hj
          obtain ⟨ai, ni, ci, h1⟩ := hsome j hjm
          rw [h1]; rfl
      · exact ⟨[], by simp; omega, fun j u hj => by simp at hj, fun u hu => by cases hu⟩
    refine h.wpList_app hgd s x t ho tg e i z 1 bytes ht hi hz hsize hby hzs (Nat.lt_succ_self 0) hr hs ad m lc hx vs (by rw [hv1, Nat.mul_one]) hv2 hv3 (by rw [Nat.zero_add]; exact h63) (by rw [Nat.zero_add]; exact hbytes) fun bo d w' h1 h2 => ?_
    rw [Nat.zero_add] at h1 ⊢
    exact hk bo d vs w' hv1 h1 h2
/-- One more hand. -/
theorem list2_more {w wr : World} {M1 : Nat} (HM : ManyI base w R o hb M1 wr) (hM : M1 + 1 ≤ 1000000) {bo : Option Addr} {d : Nat} {w2 : World} {R1 : Nat × Nat × Nat → Rw} (h1 : Hold base wr R1) (b1 : Hn R1 o hb M1)
    (e11 : R1 (o, 1, 0) = R (o, 1, 0)) (e12 : R1 (o, 2, 0) = R (o, 2, 0)) (e1N : ∀ t, t.1 ≠ o → R1 t = R t) (hL1 : Below base w wr)
    (hH : Hold base w2 (updR R1 (o, 3, 0) ⟨27, 1, bo, M1 + 1, d, ((List.range M1).map fun k => (R1 (o, 4, k)).v) ++ [.slice none 0 0]⟩)) (hB : Below base wr w2) :
    ManyI base w R o hb (M1 + 1) (w2.setCell ⟨hb, 2, none⟩ (.slice bo (M1 + 1) d)) := by
  obtain ⟨oo, on, oc, ys, l5⟩ := b1.outer
  obtain ⟨mo, mc, l3⟩ := b1.many
  have hob := b1.obj
  have hob2 := (updR_ne (R := R1) (r := ⟨27, 1, bo, M1 + 1, d, ((List.range M1).map fun k => (R1 (o, 4, k)).v) ++ [.slice none 0 0]⟩) (show (o, 0, 0) ≠ (o, 3, 0) by simp)).trans hob
  have h3 := hH.put hob2 2 (.slice bo (M1 + 1) d)
  have h4 := h3.add (o, 4, M1) (r := ⟨3, 1, none, 0, 0, []⟩) (World.ownsRow_nil _ _ _ _) fun s _ g hg => by cases hg
  refine ⟨_, h4, ?_, ?_, ?_, ?_, hL1.trans (hB.trans (hH.putB hob2 2 _))⟩
  · refine b1.more hM (bo := bo) (d := d) ?_ ?_ ?_ ?_ ?_ ?_ ?_
    · rw [updR_ne (by simp), updR_eq]; rfl
    · rw [updR_ne (by simp), updR_ne (by simp), updR_ne (by simp)]
    · rw [updR_ne (by simp), updR_ne (by simp), updR_ne (by simp)]
    · rw [updR_ne (by simp), updR_ne (by simp), updR_eq]
    · rw [updR_eq]
    · rw [updR_ne (by simp), updR_ne (by simp), updR_ne (by simp)]
    · intro k hk
      rw [updR_ne (by simp; omega), updR_ne (by simp), updR_ne (by simp)]
  · rw [updR_ne (by simp), updR_ne (by simp), updR_ne (by simp)]; exact e11
  · rw [updR_ne (by simp), updR_ne (by simp), updR_ne (by simp)]; exact e12
  · intro t ht
    rw [updR_ne (by intro e; exact ht (by rw [e])), updR_ne (by intro e; exact ht (by rw [e])), updR_ne (by intro e; exact ht (by rw [e]))]
    exact e1N t ht
/-- Behind both appends and stores: no list is laid yet. -/
theorem list2_start {w5 : World} {M1 n : Nat} {zss : List (List Int)} {R1 R5 : Nat × Nat × Nat → Rw} (b1 : Hn R1 o hb M1) (hM : n ≤ M1)
    (e11 : R1 (o, 1, 0) = R (o, 1, 0)) (e12 : R1 (o, 2, 0) = R (o, 2, 0)) (e1N : ∀ t, t.1 ≠ o → R1 t = R t)
    {og oc l1 l2 : Nat} {vs : List Value} (hvs : vs.length = n) (h5 : Hold base w5 R5) (hB : Below base w w5)
    (r0 : R5 (o, 0, 0) = ⟨31, 4, some ⟨hb, 0, none⟩, 1, 1, [(R1 (o, 1, 0)).v, (R1 (o, 2, 0)).v, (R1 (o, 3, 0)).v, .slice (some ⟨og, 0, none⟩) (n + 2) oc]⟩)
    (r5 : R5 (o, 5, 0) = ⟨25, 1, some ⟨og, 0, none⟩, n + 2, oc, vs ++ [.slice (some ⟨l1, 0, none⟩) 1 1, .slice (some ⟨l2, 0, none⟩) 1 1]⟩)
    (r6 : R5 (o, 6, 0) = ⟨3, 1, some ⟨l1, 0, none⟩, 1, 1, [.int .i64 (-7701)]⟩) (r7 : R5 (o, 6, 1) = ⟨3, 1, some ⟨l2, 0, none⟩, 1, 1, [.int .i64 (-7702)]⟩)
    (rN : ∀ t, t ≠ (o, 0, 0) → t ≠ (o, 5, 0) → t ≠ (o, 6, 0) → t ≠ (o, 6, 1) → R5 t = R1 t) : ListI base w R o hb n zss og oc 0 w5 := by
  have q1 : R5 (o, 1, 0) = R1 (o, 1, 0) := rN _ (by simp) (by simp) (by simp) (by simp)
  have q2 : R5 (o, 2, 0) = R1 (o, 2, 0) := rN _ (by simp) (by simp) (by simp) (by simp)
  have q3 : R5 (o, 3, 0) = R1 (o, 3, 0) := rN _ (by simp) (by simp) (by simp) (by simp)
  have q4 : ∀ k, R5 (o, 4, k) = R1 (o, 4, k) := fun k => rN _ (by simp) (by simp) (by simp) (by simp)
  refine ⟨M1, l1, l2, fun _ => 0, fun _ => 0, _, R5, h5, ?_, hM, r5, fun k hk => absurd hk (Nat.not_lt_zero _), ?_, ?_, fun k hk => absurd hk (Nat.not_lt_zero _), r6, r7, q1.trans e11, q2.trans e12, ?_, hB⟩
  · refine ⟨?_, by rw [q1]; exact b1.one, by rw [q2]; exact b1.two, ?_, fun k hk => by rw [q4]; exact b1.els k hk, ⟨_, _, _, _, r5⟩, b1.bnd⟩
    · rw [r0, q1, q2, q3, r5]; rfl
    · obtain ⟨ao, c, e⟩ := b1.many
      exact ⟨ao, c, by rw [q3, e]; congr 1; exact List.map_congr_left fun k _ => by rw [q4]⟩
  · rw [List.getElem?_append_right (by omega), hvs, Nat.sub_self]; rfl
  · rw [List.getElem?_append_right (by omega), hvs, Nat.add_sub_cancel_left]; rfl
  · intro t ht
    rw [rN t (by intro e; exact ht (by rw [e])) (by intro e; exact ht (by rw [e])) (by intro e; exact ht (by rw [e])) (by intro e; exact ht (by rw [e]))]
    exact e1N t ht
/-- One list more is laid. -/
theorem list2_step {w1 w2 : World} {n i : Nat} {zss : List (List Int)} {og oc M' l1 l2 : Nat} {gk dk : Nat → Nat} {ys : List Value} {R1 R2 : Nat × Nat × Nat → Rw} (hi : i < n)
    (b1 : Hn R1 o hb M') (hM : n ≤ M') (r5 : R1 (o, 5, 0) = ⟨25, 1, some ⟨og, 0, none⟩, n + 2, oc, ys⟩) (hk : ∀ k, k < i → ys[k]? = some (.slice (some ⟨gk k, 0, none⟩) (zss.getD k []).length (dk k)))
    (y1 : ys[n]? = some (.slice (some ⟨l1, 0, none⟩) 1 1)) (y2 : ys[n + 1]? = some (.slice (some ⟨l2, 0, none⟩) 1 1))
    (hg : ∀ k, k < i → R1 (o, 4, k) = ⟨3, 1, some ⟨gk k, 0, none⟩, dk k, dk k, (mkd mkS (zss.getD k []) (dk k)).map (Value.int .i64)⟩ ∧ (zss.getD k []).length + 2 ≤ dk k)
    (r6 : R1 (o, 6, 0) = ⟨3, 1, some ⟨l1, 0, none⟩, 1, 1, [.int .i64 (-7701)]⟩) (r7 : R1 (o, 6, 1) = ⟨3, 1, some ⟨l2, 0, none⟩, 1, 1, [.int .i64 (-7702)]⟩)
    (e1 : R1 (o, 1, 0) = R (o, 1, 0)) (e2 : R1 (o, 2, 0) = R (o, 2, 0)) (eN : ∀ t, t.1 ≠ o → R1 t = R t) (hB : Below base w w1)
    {mo : Option Addr} {mc : Nat} (l3 : R1 (o, 3, 0) = ⟨27, 1, mo, M', mc, (List.range M').map fun k => (R1 (o, 4, k)).v⟩)
    {g d : Nat} (hd : (zss.getD i []).length + 2 ≤ d) (H2 : Hold base w2 R2) (hB2 : Below base w1 w2) (s4 : R2 (o, 4, i) = ⟨3, 1, some ⟨g, 0, none⟩, d, d, (mkd mkS (zss.getD i []) d).map (Value.int .i64)⟩)
    (s3 : R2 (o, 3, 0) = ⟨27, 1, mo, M', mc, ((List.range M').map fun k => (R1 (o, 4, k)).v).set i (.slice (some ⟨g, 0, none⟩) d d)⟩) (sN : ∀ t, t ≠ (o, 3, 0) → t ≠ (o, 4, i) → R2 t = R1 t) :
    ListI base w R o hb n zss og oc (i + 1) (w2.setCell ⟨og, i, none⟩ (.slice (some ⟨g, 0, none⟩) (zss.getD i []).length d)) := by
  have s5 : R2 (o, 5, 0) = _ := (sN _ (by simp) (by simp)).trans r5
  have h3 := H2.put s5 i (.slice (some ⟨g, 0, none⟩) (zss.getD i []).length d)
  have hyl : ys.length = n + 2 := by have := (H2.cap s5).2.2.1; omega
  refine ⟨M', l1, l2, fun k => if k = i then g else gk k, fun k => if k = i then d else dk k, _, _, h3, ?_, hM, updR_eq, ?_, ?_, ?_, ?_, ?_, ?_, ?_, ?_, ?_, hB.trans (hB2.trans (H2.putB s5 i _))⟩
  · refine b1.laid (show i < M' by omega) l3 (g := g) (d := d) (S := mkd mkS (zss.getD i []) d) ?_ ?_ ?_ ?_ ?_ r5 updR_eq ?_
    · rw [updR_ne (by simp)]; exact sN _ (by simp) (by simp)
    · rw [updR_ne (by simp)]; exact sN _ (by simp) (by simp)
    · rw [updR_ne (by simp)]; exact sN _ (by simp) (by simp)
    · rw [updR_ne (by simp)]; exact s3
    · rw [updR_ne (by simp)]; exact s4
    · intro k hki
      rw [updR_ne (by simp)]
      exact sN _ (by simp) (by simpa using hki)
  · intro k hk'
    by_cases e : k = i
    · subst e
      dsimp only
      rw [List.getElem?_set_self (by omega), if_pos rfl, if_pos rfl]
    · dsimp only
      rw [List.getElem?_set_ne (by omega), if_neg e, if_neg e]
      exact hk k (by omega)
  · rw [List.getElem?_set_ne (by omega)]; exact y1
  · rw [List.getElem?_set_ne (by omega)]; exact y2
  · intro k hk'
    by_cases e : k = i
    · subst e
      dsimp only
      rw [updR_ne (by simp), if_pos rfl, if_pos rfl]; exact ⟨s4, hd⟩
    · dsimp only
      rw [updR_ne (by simp), if_neg e, if_neg e, sN _ (by simp) (by simpa using e)]
      exact hg k (by omega)
  · rw [updR_ne (by simp), sN _ (by simp) (by simp)]; exact r6
  · rw [updR_ne (by simp), sN _ (by simp) (by simp)]; exact r7
  · rw [updR_ne (by simp), sN _ (by simp) (by simp)]; exact e1
  · rw [updR_ne (by simp), sN _ (by simp) (by simp)]; exact e2
  · intro t ht
    rw [updR_ne (by intro e; exact ht (by rw [e])), sN t (by intro e; exact ht (by rw [e])) (by intro e; exact ht (by rw [e]))]
    exact eN t ht
set_option maxRecDepth 100000 in
set_option maxHeartbeats 6400000 in
theorem list2_any {M n : Nat} (H : Hold base w R) (B : Hn R o hb M) {w0 : World} {la : Option Addr} {lc : Nat} {zss : List (List Int)} (hL0 : Lss w0 la n lc zss) (h0 : w0.heap.size ≤ base) (hb0 : Below base w0 w) (hn : n ≤ 900000) :
    Calls Try.prog 58 #[.pointer (some ⟨hb, 0, none⟩), .slice la n lc] w (fun e w' => ∃ og oc, e = .returned (.slice (some ⟨og, 0, none⟩) n oc) ∧ ListI base w R o hb n zss og oc n w') := by
  have H0 : Hid (ManyI base w R o hb M w) := ⟨R, H, B, rfl, rfl, fun _ _ => rfl, Below.refl _ _⟩
  have hl : ∀ wx, Below base w wx → Lss wx la n lc zss := fun wx hb => hL0.below (hb0.trans hb) h0
  have HL := Lib.hid hl
  have HL0 := Lib.hid hL0
  have HB0 := Lib.hid (And.intro h0 hb0)
  clear H B hl hL0 h0 hb0
  go_enter Try.func58, Try.ntmps58
  go_wp2_with fail
  go_loopw [] (fun wx => ∃ M1 : Nat, Hid (ManyI base w R o hb M1 wx)) (fun wx => n - lenW ((wx.cell? ⟨hb, 2, none⟩).getD undef))
  case atStart => exact ⟨M, H0⟩
  case round =>
    clear H0
    obtain ⟨M1, HM⟩ := hrel
    obtain ⟨R1, h1, b1, e11, e12, e1N, hL1⟩ := HM.out
    obtain ⟨mo, mc, l3⟩ := b1.many
    obtain ⟨oo, on, oc, ys, l5⟩ := b1.outer
    have hob := b1.obj
    rw [l3, l5] at hob
    simp only [Rw.v] at hob
    have d2 : wr.cell? ⟨hb, 2, none⟩ = some (.slice mo M1 mc) := h1.cell hob 2 _ rfl
    have hbn := b1.bnd
    have HOB := Lib.hid hob
    have L3 := Lib.hid l3
    have L5 := Lib.hid l5
    have H1 := Lib.hid h1
    have B1 := Lib.hid b1
    have E := Lib.hid (And.intro e11 (And.intro e12 (And.intro e1N hL1)))
    by_cases hlt : M1 < n
    · have hlt' : (M1 : Int) < n := by omega
      obtain ⟨i0, hi0, hz0, hz1, hz2⟩ := info_parts (P := Try.prog) (e := 27) (z := .agg #[.slice none 0 0]) (size := 1) (bytes := 24) (by kernel_rfl)
      have HA : Hid (Hold base (wr.alloc (.cells #[.slice none 0 0] 27)) R1) := h1.via (abal _ _)
      have hA1 : (wr.alloc (.cells #[.slice none 0 0] 27)).cell? ⟨wr.heap.size, 0, none⟩ = some (.slice none 0 0) := by simp [go_sem]
      have d2' : (wr.alloc (.cells #[.slice none 0 0] 27)).cell? ⟨hb, 2, none⟩ = some (.slice mo M1 mc) := HA.out.cell hob 2 _ rfl
      have b63 : M1 + 1 ≤ maxLen := by unfold maxLen; omega
      have b64 : (M1 + 1) * 24 ≤ 140737488355328 := by omega
      have HA1 := Lib.hid hA1
      clear hob l3 l5 h1 b1 e11 e12 e1N hL1 hA1
      go_wp2_with (at_builtin; refine Hold.wpList_app HA.out rfl _ _ 28 rfl (o, 3, 0) 27 i0 (.agg #[.slice none 0 0]) 1 24 Try.underlying28 hi0 hz0 hz1 hz2 rfl (by decide) L3.out rfl ⟨wr.heap.size, 0, none⟩ 1 1 rfl [.slice none 0 0] rfl (by intro j u hj; (cases j with | zero => simp at hj; subst hj; exact HA1.out | succ j => simp at hj)) (by intro u hu; simp at hu; subst hu; rfl) b63 b64 ?_)
      intro bo d w2 hH hB
      have HB2 := Lib.hid (((abal wr (.cells #[.slice none 0 0] 27)).mono (H1.out.base)).trans hB)
      have HN := Lib.hid (list2_more HM.out (by omega) H1.out B1.out E.out.1 E.out.2.1 E.out.2.2.1 E.out.2.2.2 hH HB2.out)
      have r1 := hH.cell ((updR_ne (show (o, 0, 0) ≠ (o, 3, 0) by simp)).trans HOB.out) 2 _ rfl
      have r2 := hH.frozen ((updR_ne (show (o, 0, 0) ≠ (o, 3, 0) by simp)).trans HOB.out) 2
      have HD := Lib.hid d2
      have HD2 : Hid ((w2.setCell ⟨hb, 2, none⟩ (.slice bo (M1 + 1) d)).cell? ⟨hb, 2, none⟩ = some (.slice bo (M1 + 1) d)) := (hH.put ((updR_ne (show (o, 0, 0) ≠ (o, 3, 0) by simp)).trans HOB.out) 2 (.slice bo (M1 + 1) d)).cell updR_eq 2 _ rfl
      clear hH hB d2 d2'
      go_wp2
      go_roundw
      case rel => exact ⟨M1 + 1, HN⟩
      case measure => rw [HD.out, HD2.out]; show n - (M1 + 1) < n - M1; omega
    · have hge : (n : Int) ≤ M1 := by omega
      have HLS := Lib.hid (HL.out wr hL1)
      obtain ⟨i0, hi0, hz0, hz1, hz2⟩ := info_parts (P := Try.prog) (e := 25) (z := .slice none 0 0) (size := 1) (bytes := 24) (by kernel_rfl)
      have ho5 := h1.own (o, 5, 0)
      rw [l5] at ho5
      have h2 := h1.add (o, 5, 0) (r := ⟨25, 1, oo, 0, oc, []⟩) (own_shut ho5) fun s hs g hg hg' => h1.dis s (o, 5, 0) hs g hg' (by rw [l5]; cases oo <;> exact hg)
      have H2 := Lib.hid h2
      have d3 : wr.cell? ⟨hb, 3, none⟩ = some (.slice oo on oc) := h1.cell hob 3 _ rfl
      have f3 := h1.frozen hob 3
      have c0 : (0 : Int) ≤ oc := by omega
      have b63 : n ≤ maxLen := by unfold maxLen; omega
      have b64 : n * 24 ≤ 140737488355328 := by omega
      have HOB2 : Hid ((updR R1 (o, 5, 0) ⟨25, 1, oo, 0, oc, []⟩) (o, 0, 0) = ⟨31, 4, some ⟨hb, 0, none⟩, 1, 1, [(R1 (o, 1, 0)).v, (R1 (o, 2, 0)).v, .slice mo M1 mc, .slice oo on oc]⟩) := (updR_ne (by simp)).trans hob
      clear hob l3 l5 h1 b1 e11 e12 e1N hL1 ho5 h2
      go_wp2_with (at_builtin; refine Hold.wpList_lss H2.out rfl _ _ 29 rfl (o, 5, 0) 25 i0 (.slice none 0 0) 24 Try.underlying29 hi0 hz0 hz1 hz2 rfl updR_eq rfl rfl HLS.out b63 b64 ?_)
      intro bo d vs w2 hvs hH hB
      rw [updS_two] at hH
      obtain ⟨W3, HW3⟩ : ∃ z, Hid (w2.setCell ⟨hb, 3, none⟩ (.slice bo n d) = z) := ⟨_, rfl⟩
      have hob3 := (updR_ne (R := R1) (r := ⟨25, 1, bo, n, d, vs⟩) (show (o, 0, 0) ≠ (o, 5, 0) by simp)).trans HOB.out
      have r3 := hH.cell hob3 3 _ rfl
      have q3 := hH.frozen hob3 3
      have h3 := hH.put hob3 3 (.slice bo n d)
      have hb3 := hB.trans (hH.putB hob3 3 (.slice bo n d))
      rw [HW3.out] at h3 hb3
      have t3 := h3.cell updR_eq 3 _ rfl
      have H3 := Lib.hid h3
      have HB3 := Lib.hid hb3
      have HVS := Lib.hid hvs
      clear hH hB d2 d3 f3 h3 hb3 hvs
      go_upto_region 4 with fail
      rw [HW3.out]
      clear r3 q3
      have h4 := ((H3.out.alloc (o, 6, 0) (cs := #[.int .i64 (-7701)]) (E := 3) (sz := 1) (n := 1) rfl (by decide)).alloc (o, 6, 1) (cs := #[.int .i64 (-7702)]) (E := 3) (sz := 1) (n := 1) rfl (by decide)).via (abal _ (.cells #[.slice (some ⟨W3.heap.size, 0, none⟩) 1 1, .slice (some ⟨W3.heap.size + 1, 0, none⟩) 1 1] 25))
      simp only [World.size_alloc] at h4
      have H4 := Lib.hid h4
      have b65 : n + 2 ≤ maxLen := by unfold maxLen; omega
      have b66 : (n + 2) * 24 ≤ 140737488355328 := by omega
      have n1 : Hid ((((W3.alloc (.cells #[.int .i64 (-7701)] 3)).alloc (.cells #[.int .i64 (-7702)] 3)).alloc (.cells #[.slice (some ⟨W3.heap.size, 0, none⟩) 1 1, .slice (some ⟨W3.heap.size + 1, 0, none⟩) 1 1] 25)).cell? ⟨W3.heap.size + 2, 0, none⟩ = some (.slice (some ⟨W3.heap.size, 0, none⟩) 1 1)) := by show _ = _; simp [go_sem]
      have n2 : Hid ((((W3.alloc (.cells #[.int .i64 (-7701)] 3)).alloc (.cells #[.int .i64 (-7702)] 3)).alloc (.cells #[.slice (some ⟨W3.heap.size, 0, none⟩) 1 1, .slice (some ⟨W3.heap.size + 1, 0, none⟩) 1 1] 25)).cell? ⟨W3.heap.size + 2, 1, none⟩ = some (.slice (some ⟨W3.heap.size + 1, 0, none⟩) 1 1)) := by show _ = _; simp [go_sem]
      clear h4
      go_wp2_with (at_builtin; refine Hold.wpList_app H4.out rfl _ _ 29 rfl (o, 5, 0) 25 i0 (.slice none 0 0) 1 24 Try.underlying29 hi0 hz0 hz1 hz2 rfl (by decide) ((updR_ne (by simp)).trans ((updR_ne (by simp)).trans ((updR_ne (by simp)).trans updR_eq))) rfl ⟨W3.heap.size + 2, 0, none⟩ 2 2 rfl [.slice (some ⟨W3.heap.size, 0, none⟩) 1 1, .slice (some ⟨W3.heap.size + 1, 0, none⟩) 1 1] rfl (by intro j u hj; match j with | 0 => (simp at hj; subst hj; exact n1.out) | 1 => (simp at hj; subst hj; exact n2.out) | j + 2 => simp at hj) (by intro u hu; simp at hu; rcases hu with rfl | rfl <;> rfl) b65 b66 ?_)
      intro b5 d5 w5 hH hB
      have hcap := hH.cap updR_eq
      obtain ⟨og, rfl⟩ := hcap.2.2.2.2 (by omega)
      have hob5 := ((updR_ne (by simp)).trans ((updR_ne (by simp)).trans ((updR_ne (by simp)).trans updR_eq)) : (updR (updR (updR (updR (updR R1 (o, 5, 0) ⟨25, 1, bo, n, d, vs⟩) (o, 0, 0) ⟨31, 4, some ⟨hb, 0, none⟩, 1, 1, [(R1 (o, 1, 0)).v, (R1 (o, 2, 0)).v, .slice mo M1 mc, .slice oo on oc].set 3 (.slice bo n d)⟩) (o, 6, 0) ⟨3, 1, some ⟨W3.heap.size, 0, none⟩, 1, 1, [.int .i64 (-7701)]⟩) (o, 6, 1) ⟨3, 1, some ⟨W3.heap.size + 1, 0, none⟩, 1, 1, [.int .i64 (-7702)]⟩) (o, 5, 0) ⟨25, 1, some ⟨og, 0, none⟩, n + 2, d5, vs ++ [.slice (some ⟨W3.heap.size, 0, none⟩) 1 1, .slice (some ⟨W3.heap.size + 1, 0, none⟩) 1 1]⟩) (o, 0, 0) = _)
      have r5 := hH.cell hob5 3 _ rfl
      have q5 := hH.frozen hob5 3
      have h6 := hH.put hob5 3 (.slice (some ⟨og, 0, none⟩) (n + 2) d5)
      have hb6 := E.out.2.2.2.trans (HB3.out.trans (((abvia (abvia (abal W3 (.cells #[.int .i64 (-7701)] 3)) (abal _ (.cells #[.int .i64 (-7702)] 3))) (abal _ (.cells #[.slice (some ⟨W3.heap.size, 0, none⟩) 1 1, .slice (some ⟨W3.heap.size + 1, 0, none⟩) 1 1] 25))).mono H3.out.base).trans (hB.trans (hH.putB hob5 3 (.slice (some ⟨og, 0, none⟩) (n + 2) d5)))))
      have HS0 := Lib.hid (list2_start (zss := zss) (hb := hb) (l1 := W3.heap.size) (l2 := W3.heap.size + 1) B1.out (by omega) E.out.1 E.out.2.1 E.out.2.2.1 HVS.out h6 hb6 (by rw [updR_eq, L3.out]; rfl) (by rw [updR_ne (by simp), updR_eq]) (by rw [updR_ne (by simp), updR_ne (by simp), updR_ne (by simp), updR_eq]) (by rw [updR_ne (by simp), updR_ne (by simp), updR_eq]) (fun t h1 h2 h3 h4 => by rw [updR_ne h1, updR_ne h2, updR_ne h4, updR_ne h3, updR_ne h1, updR_ne h2]))
      clear hcap hob5 hH hB h6 hb6 E HVS H4 n1 n2 H3 HB3 HW3 HOB HOB2 L3 L5 H1 B1 HM HLS H2 t3
      go_wp2_with fail
      go_loopw [5] (fun v5 wx => ∃ i : Nat, i ≤ n ∧ v5 = .int .i64 i ∧ Hid (ListI base w R o hb n zss og d5 i wx)) (fun v5 _ => n - (RowKit.intOf v5).toNat)
      case atStart => exact ⟨0, Nat.zero_le _, rfl, HS0⟩
      case round =>
        clear HS0
        obtain ⟨i, hi, rfl, HI⟩ := hrel
        obtain ⟨M', l1, l2, gk, dk, ys, R2, h1, b1, hM, r5, hk, y1, y2, hg, r6, r7, e1, e2, eN, hB⟩ := HI.out
        obtain ⟨mo, mc, l3⟩ := b1.many
        have hob := b1.obj
        rw [l3, r5] at hob
        simp only [Rw.v] at hob
        have d3 : wr.cell? ⟨hb, 3, none⟩ = some (.slice (some ⟨og, 0, none⟩) (n + 2) d5) := h1.cell hob 3 _ rfl
        by_cases hlt : i < n
        · have hlt' : (i : Int) < n := by omega
          have hlt2 : (i : Int) < n + 2 := by omega
          have d2 : wr.cell? ⟨hb, 2, none⟩ = some (.slice mo M' mc) := h1.cell hob 2 _ rfl
          obtain ⟨mb, rfl⟩ := (h1.cap l3).2.2.2.2 (by have := (h1.cap l3).1; omega)
          obtain ⟨lb, lo, rfl, hlb, hcs⟩ := HL0.out.mem (by omega)
          obtain ⟨ai, ni, ci, dl0, hls⟩ := hcs i hlt
          have dl : wr.cell? ⟨lb, lo + i, none⟩ = some (.slice ai ni ci) := ((HB0.out.2.trans hB).cell (p := ⟨lb, lo + i, none⟩) (Nat.lt_of_lt_of_le hlb HB0.out.1)).trans dl0
          obtain ⟨eo, ed, ES, e4⟩ := b1.els i (by omega)
          have hmi : (i : Int) < M' := by omega
          have hni := hls.len
          have hld : Below base wr wr.drew := (Below.refl _ _).drew
          have CI := Lib.hid (ints_any (h1.via (adrew1 wr)) (tp := (o, 3, 0)) (tr := (o, 4, i)) (j := i) (by simp) l3 (ao := eo) (m := ed) (c := ed) (by rw [List.getElem?_map, List.getElem?_range (by omega)]; simp only [Option.map_some, e4, Rw.v]) e4 (la := ai) (ln := ni) (lc := ci) (l := zss.getD i []) (fun wx hb => hls.below (HB0.out.2.trans (hB.trans (hld.trans hb))) HB0.out.1))
          have HB1 := Lib.hid b1
          have HH1 := Lib.hid h1
          have HHM := Lib.hid hM
          have HR5 := Lib.hid r5
          have HK := Lib.hid hk
          have HY := Lib.hid (And.intro y1 y2)
          have HG := Lib.hid hg
          have HR6 := Lib.hid (And.intro r6 r7)
          have HE := Lib.hid (And.intro e1 (And.intro e2 (And.intro eN hB)))
          have HL3 := Lib.hid l3
          have HLD := Lib.hid hld
          have HOB := Lib.hid hob
          have HNI := Lib.hid hni
          have hne1 : ¬ hb = og := fun e => h1.dis (o, 0, 0) (o, 5, 0) (by simp) hb (by rw [hob]; rfl) (by rw [r5, e]; rfl)
          have hne2 : ¬ og = hb := fun e => hne1 e.symm
          have hne3 : ¬ og = lb := fun e => by
            have := (h1.lt r5).1
            have := HB0.out.1
            omega
          have hne4 : ¬ lb = og := fun e => hne3 e.symm
          have HDL : Hid (∀ wx, Below base wr wx → wx.cell? ⟨lb, lo + i, none⟩ = some (.slice ai ni ci)) := fun wx hb => ((HB0.out.2.trans (hB.trans hb)).cell (p := ⟨lb, lo + i, none⟩) (Nat.lt_of_lt_of_le hlb HB0.out.1)).trans dl0
          clear b1 h1 hM r5 hk y1 y2 hg r6 r7 e1 e2 eN hB l3 hld hob e4 hls hcs hlb dl0 HI
          go_upto_region 8 with fail
          go_region_held3 (fun wx => wx.cell? ⟨hb, 3, none⟩ = some (.slice (some ⟨og, 0, none⟩) (n + 2) d5) ∧ wx.cell? ⟨hb, 2, none⟩ = some (.slice (some ⟨mb, 0, none⟩) M' mc) ∧ wx.cell? ⟨lb, lo + i, none⟩ = some (.slice ai ni ci)) (go_keep)
            (first
            | (go_at_call 50; (with_reducible refine Calls.mono CI.out ?_); rintro e w5 ⟨g, d, R5, rfl, hd, hH5, s4, s3, sN, hB5⟩; have d5' := hH5.cell ((sN (o, 0, 0) (by simp) (by simp)).trans HOB.out) 3 _ rfl; have d6' := hH5.cell ((sN (o, 0, 0) (by simp) (by simp)).trans HOB.out) 2 _ rfl; clear d3 d2 dl; have d3 : w5.cell? ⟨hb, 3, none⟩ = some (.slice (some ⟨og, 0, none⟩) (n + 2) d5) := d5'; have d2 : w5.cell? ⟨hb, 2, none⟩ = some (.slice (some ⟨mb, 0, none⟩) M' mc) := d6'; have dl := HDL.out w5 (HLD.out.trans hB5); clear d5' d6'; have h5o := (sN (o, 5, 0) (by simp) (by simp)).trans HR5.out; have hyl : i < ys.length := (by have := (hH5.cap h5o).2.2.1; omega); have t5 := hH5.cell h5o i _ (List.getElem?_eq_getElem hyl); have t6 := hH5.frozen h5o i))
          have HST := Lib.hid (list2_step (hb := hb) hlt HB1.out HHM.out HR5.out HK.out HY.out.1 HY.out.2 HG.out HR6.out.1 HR6.out.2 HE.out.1 HE.out.2.1 HE.out.2.2.1 HE.out.2.2.2 HL3.out (g := g) (d := d) (by rw [HNI.out]; exact hd) hH5 (HLD.out.trans hB5) s4 s3 sN)
          rw [HNI.out] at HST
          clear hH5 s4 s3 sN hB5 h5o t5 t6 d3 d2 dl hyl hd
          go_wp2
          go_roundw
          case rel => exact ⟨i + 1, by omega, by go_num, HST⟩
          case measure => simp [RowKit.intOf]; omega
        · have hge : (n : Int) ≤ i := by omega
          obtain rfl : i = n := by omega
          have hcp := (h1.cap r5).1
          have z1 : (i : Int) ≤ d5 := by omega
          have z2 : (i : Int) ≤ i + 2 := by omega
          clear h1 b1 hM r5 hk y1 y2 hg r6 r7 e1 e2 eN hB l3 hob
          go_wp2
          go_ret
          exact ⟨og, d5, rfl, HI.out⟩
end
end Go.Proofs.Ytdedbfbkakofgaa

namespace Go.Proofs.Ytdedbfbkakofgaa
open Go.RowKit Go.Lib
set_option linter.unusedVariables false
set_option linter.unusedSimpArgs false
attribute [local go_sem] alloc_drewN setCell_drewN
section
variable {base : Nat} {w : World} {R : Nat × Nat × Nat → Rw} {o hb : Nat}
theorem ls_laid {w : World} {base : Nat} {R : Nat × Nat × Nat → Rw} (h : Hold base w R) {t : Nat × Nat × Nat} {E : TypeId} {g d : Nat} {s : List Int} {f : Nat → Int} (e : R t = ⟨E, 1, some ⟨g, 0, none⟩, d, d, (mkd f s d).map (Value.int .i64)⟩) (hd : s.length ≤ d)
    (hb : s.length * 8 ≤ 140737488351232) (hr : ∀ i, -9223372036854775808 ≤ s.getD i 0 ∧ s.getD i 0 ≤ 9223372036854775807) : Ls w (some ⟨g, 0, none⟩) s.length d s := by
  have ho := h.own t
  rw [e] at ho
  exact ls_of_full ho hd (mkd_take f hd) hb hr
theorem ls_one2 (w : World) (T : TypeId) (z : Int) (hz : -9223372036854775808 ≤ z ∧ z ≤ 9223372036854775807) : Ls (w.alloc (.cells #[.int .i64 z] T)) (some ⟨w.heap.size, 0, none⟩) 1 1 [z] := by
  have h := ls_alloc w [z] T (by simp) (fun i => by cases i with | zero => exact hz | succ k => simp [List.getD])
  simpa using h
theorem eqints_self {w : World} {a1 a2 : Option Addr} {n1 c1 n2 c2 : Nat} {s : List Int} (h1 : Ls w a1 n1 c1 s) (h2 : Ls w a2 n2 c2 s) :
    Calls Try.prog 19 #[.slice a1 n1 c1, .slice a2 n2 c2] w (Ret w (.bool true)) := by
  have h := eqints_any h1 h2
  rwa [decide_eq_true rfl] at h
/-- Many lists that lie in the hands. -/
theorem ListI.lss {n og oc : Nat} {w' : World} {zss : List (List Int)} (h : ListI base w R o hb n zss og oc n w') {w0 : World} {la : Option Addr} {lc : Nat} (hL : Lss w0 la n lc zss) : Lss w' (some ⟨og, 0, none⟩) n oc zss := by
  obtain ⟨M', l1, l2, gk, dk, ys, R1, h1, b1, hM, r5, hk, y1, y2, hg, r6, r7, e1, e2, eN, hB⟩ := h
  have hc := h1.cap r5
  refine ⟨hL.len, by omega, hL.big, hc.2.1, fun h0 => ⟨og, 0, rfl, (h1.lt r5).2, fun i hi => ?_⟩⟩
  obtain ⟨lb, lo, -, -, hcs⟩ := hL.mem h0
  obtain ⟨ai, ni, ci, -, hls⟩ := hcs i hi
  have hl := hls.len
  obtain ⟨g1, g2⟩ := hg i hi
  refine ⟨_, _, _, ?_, ls_laid h1 g1 (by omega) (by rw [hl]; exact hls.big) hls.rng⟩
  rw [Nat.zero_add]
  exact h1.cell r5 i _ (hk i hi)
/-- The first i hands are looked through and written over. -/
def KeptI (base : Nat) (w : World) (R1 : Nat × Nat × Nat → Rw) (o n : Nat) (gk dk : Nat → Nat) (i : Nat) (wx : World) : Prop :=
  ∃ R' : Nat × Nat × Nat → Rw, Hold base wx R' ∧ (∀ k, i ≤ k → R' (o, 4, k) = R1 (o, 4, k)) ∧ (∀ k, k < n → ∃ S : List Int, R' (o, 4, k) = ⟨3, 1, some ⟨gk k, 0, none⟩, dk k, dk k, S.map (Value.int .i64)⟩) ∧ (∀ t, (∀ k, t ≠ (o, 4, k)) → R' t = R1 t) ∧ Below base w wx
theorem KeptI.cast {w w1 w2 : World} {R1 : Nat × Nat × Nat → Rw} {n i : Nat} {gk dk : Nat → Nat} (h : KeptI base w R1 o n gk dk i w1) (hb : Below w1.heap.size w1 w2) : KeptI base w R1 o n gk dk i w2 := by
  obtain ⟨R', h1, h2, h3, h4, h5⟩ := h
  exact ⟨R', h1.via hb, h2, h3, h4, h5.trans (hb.mono h1.base)⟩
set_option maxRecDepth 100000 in
set_option maxHeartbeats 6400000 in
theorem listKept2_any {n og oc : Nat} {zss : List (List Int)} {w1 : World} (HI : ListI base w R o hb n zss og oc n w1) {w0 : World} {la : Option Addr} {lc : Nat} (hL0 : Lss w0 la n lc zss) (h0 : w0.heap.size ≤ base) (hb0 : Below base w0 w) (hn : n ≤ 900000) :
    Calls Try.prog 60 #[.pointer (some ⟨hb, 0, none⟩), .slice la n lc] w1 (fun e w' => e = .returned (.bool true) ∧ ∃ M', ManyI base w R o hb M' w') := by
  obtain ⟨M', l1, l2, gk, dk, ys, R1, h1, b1, hM, r5, hk, y1, y2, hg, r6, r7, e1, e2, eN, hB⟩ := HI
  obtain ⟨mo, mc, l3⟩ := b1.many
  have hob := b1.obj
  rw [l3, r5] at hob
  simp only [Rw.v] at hob
  have HC : Hid (∀ wx, Below base w1 wx → Hold base wx R1 → wx.cell? ⟨hb, 3, none⟩ = some (.slice (some ⟨og, 0, none⟩) (n + 2) oc) ∧ wx.cell? ⟨og, n, none⟩ = some (.slice (some ⟨l1, 0, none⟩) 1 1) ∧ wx.cell? ⟨og, n + 1, none⟩ = some (.slice (some ⟨l2, 0, none⟩) 1 1)) := fun wx hb h => ⟨h.cell hob 3 _ rfl, h.cell r5 n _ y1, h.cell r5 (n + 1) _ y2⟩
  have H1 := Lib.hid h1
  have B1 := Lib.hid b1
  have HM := Lib.hid hM
  have R5 := Lib.hid r5
  have HK := Lib.hid hk
  have HG := Lib.hid hg
  have R6 := Lib.hid (And.intro r6 r7)
  have HE := Lib.hid (And.intro e1 (And.intro e2 (And.intro eN hB)))
  have L3 := Lib.hid l3
  have HOB := Lib.hid hob
  have HL0 := Lib.hid hL0
  have HB0 := Lib.hid (And.intro h0 hb0)
  have hoc := (h1.cap r5).1
  obtain ⟨c3, cn, -⟩ := HC.out w1 (Below.refl _ _) h1
  have z1 : (n : Int) < n + 2 := by omega
  have z2 : (n : Int) + 1 < n + 2 := by omega
  have rone : ∀ x : Int, -9223372036854775808 ≤ x ∧ x ≤ 9223372036854775807 → ∀ i, -9223372036854775808 ≤ [x].getD i 0 ∧ [x].getD i 0 ≤ 9223372036854775807 := fun x hx i => by
    cases i with
    | zero => exact hx
    | succ k => simp [List.getD]
  have CE1 := Lib.hid (eqints_self (((h1.ls (zs := [-7701]) r6 (by omega) (rone _ (by omega)))).via (abal w1 (.cells #[.int .i64 (-7701)] 3))) (ls_one2 w1 3 (-7701) (by omega)))
  have RO := Lib.hid rone
  clear h1 b1 hM r5 hk y1 y2 hg r6 r7 e1 e2 eN hB l3 hob hL0 h0 hb0 rone
  go_enter Try.func60, Try.ntmps60
  go_wp2_with fail
  refine CE1.out.mono ?_; rintro e w2 ⟨rfl, m2, rfl⟩
  have hb2 : Below w1.heap.size w1 ((w1.alloc (.cells #[.int .i64 (-7701)] 3)).drewN m2) := abvia (abal _ _) (adrew _ _)
  obtain ⟨W2, HW2⟩ : ∃ z, Hid ((w1.alloc (.cells #[.int .i64 (-7701)] 3)).drewN m2 = z) := ⟨_, rfl⟩
  rw [HW2.out] at hb2 ⊢
  have H2 := Lib.hid (H1.out.via hb2)
  have HB2 := Lib.hid (hb2.mono H1.out.base)
  obtain ⟨c3', -, cn1⟩ := HC.out W2 HB2.out H2.out
  have CE2 := Lib.hid (eqints_self (((H2.out.ls (zs := [-7702]) R6.out.2 (by omega) (RO.out _ (by omega)))).via (abal W2 (.cells #[.int .i64 (-7702)] 3))) (ls_one2 W2 3 (-7702) (by omega)))
  clear c3 cn hb2
  go_wp2_with fail
  refine CE2.out.mono ?_; rintro e w3 ⟨rfl, m3, rfl⟩
  have hb3 : Below W2.heap.size W2 ((W2.alloc (.cells #[.int .i64 (-7702)] 3)).drewN m3) := abvia (abal _ _) (adrew _ _)
  obtain ⟨W3, HW3⟩ : ∃ z, Hid ((W2.alloc (.cells #[.int .i64 (-7702)] 3)).drewN m3 = z) := ⟨_, rfl⟩
  rw [HW3.out] at hb3 ⊢
  have HKP : Hid (KeptI base w1 R1 o n gk dk 0 W3) := ⟨R1, H2.out.via hb3, fun _ _ => rfl, fun k hk => ⟨_, (HG.out k hk).1⟩, fun _ _ => rfl, HB2.out.trans (hb3.mono H2.out.base)⟩
  clear hb3 c3' cn1 CE1 CE2 H2 HB2 HW3 HW2
  go_wp2_with fail
  go_loopw [6, 7, 8] (fun v6 v7 v8 wx => ∃ i : Nat, i ≤ n ∧ v6 = .bool true ∧ v7 = .int .i64 i ∧ Hid (KeptI base w1 R1 o n gk dk i wx)) (fun _ v7 _ _ => n - (RowKit.intOf v7).toNat)
  case atStart => exact ⟨0, Nat.zero_le _, rfl, rfl, HKP⟩
  case round =>
    clear HKP
    obtain ⟨i, hi, rfl, rfl, HI⟩ := hrel
    obtain ⟨R', h1, q1, q2, q3, hBx⟩ := HI.out
    have hob' : R' (o, 0, 0) = _ := (q3 (o, 0, 0) (by simp)).trans HOB.out
    have r5' : R' (o, 5, 0) = _ := (q3 (o, 5, 0) (by simp)).trans R5.out
    have l3' : R' (o, 3, 0) = _ := (q3 (o, 3, 0) (by simp)).trans L3.out
    by_cases hlt : i < n
    · have hlt' : (i : Int) < n := by omega
      have hlt2 : (i : Int) < n + 2 := by omega
      obtain ⟨lb, lo, rfl, hlb, hcs⟩ := HL0.out.mem (by omega)
      obtain ⟨ai, ni, ci, dl0, hls⟩ := hcs i hlt
      obtain ⟨g1, g2⟩ := HG.out i hlt
      have hni := hls.len
      have hB1 := HE.out.2.2.2
      have hBw : Below base w0 wr := HB0.out.2.trans (hB1.trans hBx)
      have d2 : wr.cell? ⟨hb, 2, none⟩ = some (.slice mo M' mc) := h1.cell hob' 2 _ rfl
      have d3 : wr.cell? ⟨hb, 3, none⟩ = some (.slice (some ⟨og, 0, none⟩) (n + 2) oc) := h1.cell hob' 3 _ rfl
      have di : wr.cell? ⟨og, i, none⟩ = some (.slice (some ⟨gk i, 0, none⟩) (zss.getD i []).length (dk i)) := h1.cell r5' i _ (HK.out i hlt)
      have dl : wr.cell? ⟨lb, lo + i, none⟩ = some (.slice ai ni ci) := (hBw.cell (p := ⟨lb, lo + i, none⟩) (Nat.lt_of_lt_of_le hlb HB0.out.1)).trans dl0
      have e4 := (q1 i (Nat.le_refl _)).trans g1
      have hlx := ls_laid h1 e4 (by omega) (by rw [hni]; exact hls.big) hls.rng
      have hly := hls.below hBw HB0.out.1
      rw [hni] at di hlx
      obtain ⟨gki, HGK⟩ : ∃ z, Hid (gk i = z) := ⟨_, rfl⟩
      obtain ⟨dki, HDK⟩ : ∃ z, Hid (dk i = z) := ⟨_, rfl⟩
      rw [HGK.out, HDK.out] at di hlx
      have CE := Lib.hid (fun m => eqints_self (hlx.drew m) (hly.drew m))
      obtain ⟨mb, rfl⟩ := (h1.cap l3').2.2.2.2 (by have := (h1.cap l3').1; have := HM.out; omega)
      have hmi : (i : Int) < M' := by have := HM.out; omega
      have HI' := Lib.hid (And.intro h1 (And.intro hob' (And.intro r5' (And.intro l3' (And.intro hBx hBw)))))
      have Q1 := Lib.hid q1
      have Q2 := Lib.hid q2
      have Q3 := Lib.hid q3
      have E4 := Lib.hid e4
      have HLS := Lib.hid hls
      have HLB : Hid (lb < base) := Nat.lt_of_lt_of_le hlb HB0.out.1
      have DL0 := Lib.hid dl0
      clear h1 hob' r5' l3' hBx hBw q1 q2 q3 e4 hlx hly hls hlb hcs dl0 hB1 g1 g2 HI
      go_wp2_with fail
      go_quiet (first | (with_reducible exact Ret.quiet (CE.out _)))
      obtain ⟨W4, HW4⟩ : ∃ z, Hid (wr.drewN nq = z) := ⟨_, rfl⟩
      have hb4 : Below wr.heap.size wr W4 := by rw [← HW4.out]; exact adrew _ _
      rw [HW4.out]
      obtain ⟨h1, hob', r5', l3', hBx, hBw⟩ := HI'.out
      have h4 := h1.via hb4
      have hBw4 := hBw.trans (hb4.mono h1.base)
      have d2' : W4.cell? ⟨hb, 2, none⟩ = some (.slice (some ⟨mb, 0, none⟩) M' mc) := h4.cell hob' 2 _ rfl
      have dl' : W4.cell? ⟨lb, lo + i, none⟩ = some (.slice ai ni ci) := (hBw4.cell (p := ⟨lb, lo + i, none⟩) HLB.out).trans DL0.out
      have hjj : ((List.range M').map fun k => (R1 (o, 4, k)).v)[i]? = some (.slice (some ⟨gki, 0, none⟩) dki dki) := by
        rw [List.getElem?_map, List.getElem?_range (by omega)]
        simp only [Option.map_some, (HG.out i hlt).1, Rw.v, HGK.out, HDK.out]
      have e4 := E4.out
      rw [HGK.out, HDK.out] at e4
      have CK := Lib.hid (intsKept_any (h4.via (adrew1 W4)) (tp := (o, 3, 0)) (tr := (o, 4, i)) (j := i) (by simp) l3' (ao := some ⟨gki, 0, none⟩) (d := dki) hjj e4 (la := ai) (ln := ni) (lc := ci) (l := zss.getD i []) (fun wx hb => HLS.out.below (hBw4.trans ((Below.refl _ _).drew.trans hb)) HB0.out.1) (mkd_good _ _ _))
      have HBD : Hid (Below base wr W4) := hb4.mono h1.base
      have HDL : Hid (∀ wx, Below base W4 wx → wx.cell? ⟨lb, lo + i, none⟩ = some (.slice ai ni ci)) := fun wx hb => ((hBw4.trans hb).cell (p := ⟨lb, lo + i, none⟩) HLB.out).trans DL0.out
      clear h1 hob' r5' l3' hBx hBw h4 hBw4 hjj e4 hb4 d2 d3 di dl
      go_upto_region 7 with fail
      go_region_held3 (fun wx => wx.cell? ⟨hb, 2, none⟩ = some (.slice (some ⟨mb, 0, none⟩) M' mc) ∧ wx.cell? ⟨lb, lo + i, none⟩ = some (.slice ai ni ci)) (go_keep)
        (first
        | (go_at_call 51; (with_reducible refine Calls.mono CK.out ?_); rintro e w5 ⟨rfl, R5', S5, hH5, s4, sN, hB5⟩; clear d2' dl'; have d2' := hH5.cell ((sN (o, 0, 0) (by simp)).trans HI'.out.2.1) 2 _ rfl; have dl' := HDL.out w5 ((Below.refl _ _).drew.trans hB5)))
      have HST : Hid (KeptI base w1 R1 o n gk dk (i + 1) w5) := by
        refine ⟨R5', hH5, fun k hk => ?_, fun k hk => ?_, fun t ht => ?_, HI'.out.2.2.2.2.1.trans (HBD.out.trans ((Below.refl _ _).drew.trans hB5))⟩
        · rw [sN _ (by simp; omega)]; exact Q1.out k (by omega)
        · by_cases e : k = i
          · subst e; exact ⟨S5, by rw [HGK.out, HDK.out]; exact s4⟩
          · rw [sN _ (by simpa using e)]; exact Q2.out k hk
        · rw [sN _ (ht i)]; exact Q3.out t ht
      clear hH5 s4 sN hB5 d2' dl'
      go_wp2
      go_roundw
      case rel => exact ⟨i + 1, by omega, by first | rfl | simp, by go_num, HST⟩
      case measure => simp [RowKit.intOf]; omega
    · have hge : (n : Int) ≤ i := by omega
      obtain rfl : i = n := by omega
      have HK2 : Hid (∃ ys', KeptI base w1 R1 o i gk dk i wr ∧ True ∧ ys' = ys) := ⟨ys, HI.out, trivial, rfl⟩
      obtain ⟨R', h1, q1, q2, q3, hBx⟩ := HI.out
      have HLP : Hid (∃ ys' : List Value, Hold base wr (updR R' (o, 5, 0) ⟨25, 1, some ⟨og, 0, none⟩, i + 2, oc, ys'⟩) ∧ Below base w1 wr) := ⟨ys, by rw [updS_self ((q3 (o, 5, 0) (by simp)).trans R5.out)]; exact h1, hBx⟩
      have HQ := Lib.hid (And.intro q2 q3)
      have HQ1 := Lib.hid q1
      clear h1 q1 q2 q3 hBx HK2 HI
      go_wp2_with fail
      go_loopw [9] (fun v9 wx => ∃ j : Nat, j ≤ i + 2 ∧ v9 = .int .i64 j ∧ Hid (∃ ys' : List Value, Hold base wx (updR R' (o, 5, 0) ⟨25, 1, some ⟨og, 0, none⟩, i + 2, oc, ys'⟩) ∧ Below base w1 wx)) (fun v9 _ => i + 2 - (RowKit.intOf v9).toNat)
      case atStart => exact ⟨0, Nat.zero_le _, rfl, HLP⟩
      case round =>
        clear HLP
        obtain ⟨j, hj, rfl, HJ⟩ := hrel
        obtain ⟨ys', h1, hBx⟩ := HJ.out
        have hob5 := (updR_ne (R := R') (r := ⟨25, 1, some ⟨og, 0, none⟩, i + 2, oc, ys'⟩) (show (o, 0, 0) ≠ (o, 5, 0) by simp)).trans ((HQ.out.2 (o, 0, 0) (by simp)).trans HOB.out)
        have d3 : wr.cell? ⟨hb, 3, none⟩ = some (.slice (some ⟨og, 0, none⟩) (i + 2) oc) := h1.cell hob5 3 _ rfl
        by_cases hlj : j < i + 2
        · have hlj' : (j : Int) < i + 2 := by omega
          have hyl : j < ys'.length := by have := (h1.cap updR_eq).2.2.1; omega
          have t5 := h1.cell updR_eq j _ (List.getElem?_eq_getElem hyl)
          have t6 := h1.frozen updR_eq j
          have hP := h1.put updR_eq j (.slice none 0 0)
          rw [updS_two] at hP
          have HP : Hid (∃ ys'' : List Value, Hold base (wr.setCell ⟨og, j, none⟩ (.slice none 0 0)) (updR R' (o, 5, 0) ⟨25, 1, some ⟨og, 0, none⟩, i + 2, oc, ys''⟩) ∧ Below base w1 (wr.setCell ⟨og, j, none⟩ (.slice none 0 0))) := ⟨_, hP, hBx.trans (h1.putB updR_eq j _)⟩
          clear hP h1 hBx hob5
          go_wp2
          go_roundw
          case rel => exact ⟨j + 1, by omega, by go_num, HP⟩
          case measure => simp [RowKit.intOf]; omega
        · have hge : ((i : Int) + 2) ≤ j := by omega
          have HF : Hid (∃ M', ManyI base w R o hb M' wr) := by
            obtain ⟨q2, q3⟩ := HQ.out
            have hN : ∀ t, (∀ k, t ≠ (o, 4, k)) → t ≠ (o, 5, 0) → (updR R' (o, 5, 0) ⟨25, 1, some ⟨og, 0, none⟩, i + 2, oc, ys'⟩) t = R1 t := fun t h2 h3 => (updR_ne h3).trans (q3 t h2)
            have h4 : ∀ k, (updR R' (o, 5, 0) ⟨25, 1, some ⟨og, 0, none⟩, i + 2, oc, ys'⟩) (o, 4, k) = R' (o, 4, k) := fun k => updR_ne (by simp)
            have hv : ∀ k, (R' (o, 4, k)).v = (R1 (o, 4, k)).v := fun k => by
              by_cases e : k < i
              · obtain ⟨S, e2⟩ := q2 k e
                rw [e2, (HG.out k e).1]; rfl
              · rw [HQ1.out k (by omega)]
            refine ⟨M', _, h1, ⟨?_, ?_, ?_, ⟨mo, mc, ?_⟩, fun k hk => ?_, ⟨_, _, _, _, updR_eq⟩, B1.out.bnd⟩, ?_, ?_, fun t ht => ?_, HE.out.2.2.2.trans hBx⟩
            · rw [hN (o, 0, 0) (by simp) (by simp), hN (o, 1, 0) (by simp) (by simp), hN (o, 2, 0) (by simp) (by simp), hN (o, 3, 0) (by simp) (by simp), updR_eq, HOB.out, L3.out]; rfl
            · rw [hN (o, 1, 0) (by simp) (by simp)]; exact B1.out.one
            · rw [hN (o, 2, 0) (by simp) (by simp)]; exact B1.out.two
            · rw [hN (o, 3, 0) (by simp) (by simp), L3.out]
              congr 1
              exact List.map_congr_left fun k _ => by rw [h4, hv]
            · rw [h4]
              by_cases e : k < i
              · obtain ⟨S, e2⟩ := q2 k e
                exact ⟨_, _, S, e2⟩
              · rw [HQ1.out k (by omega)]; exact B1.out.els k hk
            · rw [hN (o, 1, 0) (by simp) (by simp)]; exact HE.out.1
            · rw [hN (o, 2, 0) (by simp) (by simp)]; exact HE.out.2.1
            · rw [hN t (fun k e => ht (by rw [e])) (fun e => ht (by rw [e]))]; exact HE.out.2.2.1 t ht
          clear h1 hBx hob5
          go_wp2
          go_ret
          exact ⟨rfl, HF.out⟩
end
end Go.Proofs.Ytdedbfbkakofgaa

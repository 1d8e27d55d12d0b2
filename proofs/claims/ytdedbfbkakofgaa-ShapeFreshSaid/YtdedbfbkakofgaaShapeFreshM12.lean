/- The hands of layer 2 (abacuslaw2): many lists laid in memory that is used anew. The hands of layer 2 (abacuslaw2): list. The book of layer 2 (abacuslaw2): how much room, how full, whole. The book of layer 2 (abacuslaw2): Take of many lists. -/
import Derived.Test.YtdedbfbkakofgaaShapeFreshM10
import Derived.Test.YtdedbfbkakofgaaShapeFreshM11
import Derived.Deep.RegionLaw
namespace Go.Proofs.Ytdedbfbkakofgaa
open Go.RowKit Go.Lib
set_option linter.unusedVariables false
set_option linter.unusedSimpArgs false
attribute [local go_sem] alloc_drewN setCell_drewN
def lenW : Value → Nat
  | .slice _ n _ => n
  | _ => 0
section
variable {base : Nat} {w : World} {R : Nat × Nat × Nat → Rw} {o hb : Nat}
theorem Hold.wpList_app {P : Program} (h : Hold base w R) {ops : Array Oper} {rest : List Oper} {o : Oper} {a : Act} {Q : Exit → Act → World → Prop} (hgd : o.guard = none) (s x : Operand) (t : TypeId)
    (ho : o.op = .call { callee := .builtin .append, args := #[s, x], argTypes := #[t, t] })
    (tg : Nat × Nat × Nat) (e : TypeId) (i : TypeInfo) (z : Value) (size bytes : Nat) (ht : P.underlying t = some (.slice e)) (hi : P.info? e = some i) (hz : i.zero = some z)
    (hsize : i.size = size) (hby : i.bytes = bytes) (hzs : z.cells.size = size) (hsz : 0 < size)
    {ao : Option Addr} {n c : Nat} {xs : List Value} (hr : R tg = ⟨e, size, ao, n, c, xs⟩) (hs : a.eval s = .slice ao n c)
    (ad : Addr) (m c' : Nat) (hx : a.eval x = .slice (some ad) m c') (news : List Value) (hl : news.length = m * size) (hnews : ∀ j u, news[j]? = some u → w.cell? (ad.add j) = some u) (h1 : ∀ u ∈ news, u.oneCell' = true)
    (h63 : n + m ≤ maxLen) (hbytes : (n + m) * bytes ≤ 140737488355328)
    (hk : ∀ bo d w', Hold base w' (updR R tg ⟨e, size, bo, n + m, d, xs ++ news⟩) → Below base w w' → wpList P ops Q rest (a.put o.dst (.slice bo (n + m) d)) w') : wpList P ops Q (o :: rest) a w :=
  wpList_plain hgd fun _ hK => h.wp_append s x t ho tg e i z size bytes ht hi hz hsize hby hzs hsz hr hs ad m c' hx news hl hnews h1 h63 hbytes fun bo d w' h1 h2 => hK _ _ (hk bo d w' h1 h2)
/-- append of no slice at all. -/
theorem wpList_app0 {P : Program} {ops : Array Oper} {rest : List Oper} {o : Oper} {a : Act} {Q : Exit → Act → World → Prop} (hgd : o.guard = none) (s x : Operand) (t : TypeId)
    (ho : o.op = .call { callee := .builtin .append, args := #[s, x], argTypes := #[t, t] })
    (e : TypeId) (i : TypeInfo) (ht : P.underlying t = some (.slice e)) (hi : P.info? e = some i) {sz : Nat} {ao : Option Addr} {n c c' : Nat} {xs : List Value} (hown : w.ownsRow base e sz (.slice ao n c) n xs) (hs : a.eval s = .slice ao n c)
    (hx : a.eval x = .slice none 0 c') (hk : wpList P ops Q rest (a.put o.dst (.slice ao n c)) w) : wpList P ops Q (o :: rest) a w :=
  wpList_plain hgd fun _ hK => by
    have hrun : (Builtin.append_ #[t, t] o.type #[.slice ao n c, .slice none 0 c']).run P w = .ok (.slice ao n c) w := by
      rcases hown.2 with ⟨hv, h0⟩ | ⟨g, cap, cur, hv, hbg, hg, hnc, hcm, hcs, htake⟩
      · cases hv
        simp [Builtin.append_, run_underlying ht, sizeOf, typeInfo, hi, Builtin.lenOf, Builtin.firstCells, loadCells, loadCellsFrom]
      · cases hv
        simp [Builtin.append_, run_underlying ht, sizeOf, typeInfo, hi, Builtin.lenOf, Builtin.firstCells, storeCells, hnc]
    unfold Oper.wp execOp
    simp only [ho, resolve, invoke, builtin, Sem.run_bind, Sem.run_pure, Result.andThen_ok, List.map_toArray, List.map_cons, List.map_nil, hs, hx, hrun]
    exact hK _ _ hk
/-- A row of numbers at its whole length. -/
def Full (r : Rw) : Prop := ∃ (ao : Option Addr) (d : Nat) (S : List Int), r = ⟨3, 1, ao, d, d, S.map (Value.int .i64)⟩
/-- The hands' rows. -/
structure Hn (R : Nat × Nat × Nat → Rw) (o hb M : Nat) : Prop where
  obj : R (o, 0, 0) = ⟨31, 4, some ⟨hb, 0, none⟩, 1, 1, [(R (o, 1, 0)).v, (R (o, 2, 0)).v, (R (o, 3, 0)).v, (R (o, 5, 0)).v]⟩
  one : Full (R (o, 1, 0))
  two : Full (R (o, 2, 0))
  many : ∃ ao c, R (o, 3, 0) = ⟨27, 1, ao, M, c, (List.range M).map fun k => (R (o, 4, k)).v⟩
  els : ∀ k, k < M → Full (R (o, 4, k))
  outer : ∃ ao n c xs, R (o, 5, 0) = ⟨25, 1, ao, n, c, xs⟩
  bnd : M ≤ 1000000
theorem Hn.congr {R' : Nat × Nat × Nat → Rw} {M : Nat} (h : Hn R o hb M) (hR : ∀ t, t.1 = o → R' t = R t) : Hn R' o hb M := by
  refine ⟨?_, ?_, ?_, ?_, ?_, ?_, h.bnd⟩
  · rw [hR _ rfl, hR _ rfl, hR _ rfl, hR _ rfl, hR _ rfl]; exact h.obj
  · rw [hR _ rfl]; exact h.one
  · rw [hR _ rfl]; exact h.two
  · obtain ⟨ao, c, e⟩ := h.many
    refine ⟨ao, c, ?_⟩
    rw [hR _ rfl, e]
    congr 1
    exact List.map_congr_left fun k _ => by rw [hR _ rfl]
  · intro k hk; rw [hR _ rfl]; exact h.els k hk
  · obtain ⟨ao, n, c, xs, e⟩ := h.outer
    exact ⟨ao, n, c, xs, by rw [hR _ rfl, e]⟩
end
end Go.Proofs.Ytdedbfbkakofgaa

namespace Go.Proofs.Ytdedbfbkakofgaa
open Go.RowKit Go.Lib
set_option linter.unusedVariables false
set_option linter.unusedSimpArgs false
attribute [local go_sem] alloc_drewN setCell_drewN
section
variable {base : Nat} {w : World} {R : Nat × Nat × Nat → Rw} {o hb : Nat}
/-- The first i of many lists are laid; the outer row holds them, two marks behind all. -/
def ListI (base : Nat) (w : World) (R : Nat × Nat × Nat → Rw) (o hb n : Nat) (zss : List (List Int)) (og oc i : Nat) (w' : World) : Prop :=
  ∃ (M' l1 l2 : Nat) (gk dk : Nat → Nat) (ys : List Value) (R' : Nat × Nat × Nat → Rw), Hold base w' R' ∧ Hn R' o hb M' ∧ n ≤ M' ∧
    R' (o, 5, 0) = ⟨25, 1, some ⟨og, 0, none⟩, n + 2, oc, ys⟩ ∧ (∀ k, k < i → ys[k]? = some (.slice (some ⟨gk k, 0, none⟩) (zss.getD k []).length (dk k))) ∧
    ys[n]? = some (.slice (some ⟨l1, 0, none⟩) 1 1) ∧ ys[n + 1]? = some (.slice (some ⟨l2, 0, none⟩) 1 1) ∧
    (∀ k, k < i → R' (o, 4, k) = ⟨3, 1, some ⟨gk k, 0, none⟩, dk k, dk k, (mkd mkS (zss.getD k []) (dk k)).map (Value.int .i64)⟩ ∧ (zss.getD k []).length + 2 ≤ dk k) ∧
    R' (o, 6, 0) = ⟨3, 1, some ⟨l1, 0, none⟩, 1, 1, [.int .i64 (-7701)]⟩ ∧ R' (o, 6, 1) = ⟨3, 1, some ⟨l2, 0, none⟩, 1, 1, [.int .i64 (-7702)]⟩ ∧
    R' (o, 1, 0) = R (o, 1, 0) ∧ R' (o, 2, 0) = R (o, 2, 0) ∧ (∀ t, t.1 ≠ o → R' t = R t) ∧ Below base w w'
/-- The hands have room for n lists. -/
def ManyI (base : Nat) (w : World) (R : Nat × Nat × Nat → Rw) (o hb : Nat) (M : Nat) (w' : World) : Prop :=
  ∃ R' : Nat × Nat × Nat → Rw, Hold base w' R' ∧ Hn R' o hb M ∧ R' (o, 1, 0) = R (o, 1, 0) ∧ R' (o, 2, 0) = R (o, 2, 0) ∧ (∀ t, t.1 ≠ o → R' t = R t) ∧ Below base w w'
/-- A hand more. -/
theorem Hn.more {R' : Nat × Nat × Nat → Rw} {M : Nat} (h : Hn R o hb M) (hM : M + 1 ≤ 1000000) {bo : Option Addr} {d : Nat}
    (e0 : R' (o, 0, 0) = ⟨31, 4, some ⟨hb, 0, none⟩, 1, 1, [(R (o, 1, 0)).v, (R (o, 2, 0)).v, .slice bo (M + 1) d, (R (o, 5, 0)).v]⟩)
    (e1 : R' (o, 1, 0) = R (o, 1, 0)) (e2 : R' (o, 2, 0) = R (o, 2, 0)) (e3 : R' (o, 3, 0) = ⟨27, 1, bo, M + 1, d, ((List.range M).map fun k => (R (o, 4, k)).v) ++ [.slice none 0 0]⟩)
    (e4 : R' (o, 4, M) = ⟨3, 1, none, 0, 0, []⟩) (e5 : R' (o, 5, 0) = R (o, 5, 0)) (h4 : ∀ k, k < M → R' (o, 4, k) = R (o, 4, k)) : Hn R' o hb (M + 1) := by
  refine ⟨by rw [e0, e1, e2, e3, e5]; rfl, by rw [e1]; exact h.one, by rw [e2]; exact h.two, ⟨bo, d, ?_⟩, fun k hk => ?_, ?_, hM⟩
  · rw [e3, List.range_succ, List.map_append, List.map_singleton, e4]
    congr 2
    exact List.map_congr_left fun k hk => by rw [h4 k (List.mem_range.1 hk)]
  · by_cases e : k = M
    · subst e; exact ⟨none, 0, [], e4⟩
    · rw [h4 k (by omega)]; exact h.els k (by omega)
  · obtain ⟨ao, n, c, xs, e⟩ := h.outer
    exact ⟨ao, n, c, xs, by rw [e5, e]⟩
/-- A hand's list is laid anew. -/
theorem Hn.laid {R' : Nat × Nat × Nat → Rw} {M : Nat} (h : Hn R o hb M) {i : Nat} (hi : i < M) {ao : Option Addr} {c : Nat} (l3 : R (o, 3, 0) = ⟨27, 1, ao, M, c, (List.range M).map fun k => (R (o, 4, k)).v⟩)
    {g d : Nat} {S : List Int} (e0 : R' (o, 0, 0) = R (o, 0, 0)) (e1 : R' (o, 1, 0) = R (o, 1, 0)) (e2 : R' (o, 2, 0) = R (o, 2, 0))
    (e3 : R' (o, 3, 0) = ⟨27, 1, ao, M, c, ((List.range M).map fun k => (R (o, 4, k)).v).set i (.slice (some ⟨g, 0, none⟩) d d)⟩)
    (e4 : R' (o, 4, i) = ⟨3, 1, some ⟨g, 0, none⟩, d, d, S.map (Value.int .i64)⟩) {oo : Option Addr} {on oc : Nat} {ys ys' : List Value} (o5 : R (o, 5, 0) = ⟨25, 1, oo, on, oc, ys⟩) (e5 : R' (o, 5, 0) = ⟨25, 1, oo, on, oc, ys'⟩)
    (h4 : ∀ k, k ≠ i → R' (o, 4, k) = R (o, 4, k)) : Hn R' o hb M := by
  have key : ((List.range M).map fun k => (R (o, 4, k)).v).set i (.slice (some ⟨g, 0, none⟩) d d) = (List.range M).map fun k => (R' (o, 4, k)).v := by
    apply List.ext_getElem?
    intro j
    rw [List.getElem?_set]
    by_cases e : i = j
    · subst e
      simp [hi, e4, Rw.v]
    · rw [if_neg e, List.getElem?_map, List.getElem?_map]
      cases hj : (List.range M)[j]? with
      | none => rfl
      | some q =>
        have hq : q = j := by
          obtain ⟨h1, h2⟩ := List.getElem?_eq_some_iff.1 hj
          rw [List.getElem_range] at h2; exact h2.symm
        subst hq
        simp [h4 q (fun e' => e e'.symm)]
  have hob := h.obj
  refine ⟨?_, by rw [e1]; exact h.one, by rw [e2]; exact h.two, ⟨ao, c, by rw [e3, key]⟩, fun k hk => ?_, ⟨oo, on, oc, ys', e5⟩, h.bnd⟩
  · rw [e0, hob, e1, e2, e3, e5, l3, o5]; rfl
  · by_cases e : k = i
    · subst e; exact ⟨_, _, _, e4⟩
    · rw [h4 k e]; exact h.els k hk
theorem add_off (b off j : Nat) : (⟨b, off, none⟩ : Addr).add j = ⟨b, off + j, none⟩ := by
  unfold Addr.add
  split
  · rename_i h; rw [h, Nat.add_zero]
  · rfl
theorem Hold.wpList_lss {P : Program} (h : Hold base w R) {ops : Array Oper} {rest : List Oper} {o : Oper} {a : Act} {Q : Exit → Act → World → Prop} (hgd : o.guard = none) (s x : Operand) (t : TypeId)
    (ho : o.op = .call { callee := .builtin .append, args := #[s, x], argTypes := #[t, t] })
    (tg : Nat × Nat × Nat) (e : TypeId) (i : TypeInfo) (z : Value) (bytes : Nat) (ht : P.underlying t = some (.slice e)) (hi : P.info? e = some i) (hz : i.zero = some z)
    (hsize : i.size = 1) (hby : i.bytes = bytes) (hzs : z.cells.size = 1)
    {ao : Option Addr} {c : Nat} (hr : R tg = ⟨e, 1, ao, 0, c, []⟩) (hs : a.eval s = .slice ao 0 c)
    {la : Option Addr} {m lc : Nat} {zss : List (List Int)} (hx : a.eval x = .slice la m lc) (hL : Lss w la m lc zss) (h63 : m ≤ maxLen) (hbytes : m * bytes ≤ 140737488355328)
    (hk : ∀ bo d vs w', vs.length = m → Hold base w' (updR R tg ⟨e, 1, bo, m, d, vs⟩) → Below base w w' → wpList P ops Q rest (a.put o.dst (.slice bo m d)) w') : wpList P ops Q (o :: rest) a w := by
  cases la with
  | none =>
    have hm : m = 0 := by
      by_cases h0 : 0 < m
      · obtain ⟨b, off, e1, -⟩ := hL.mem h0; cases e1
      · omega
    subst hm
    have hown := h.own tg
    rw [hr] at hown
    refine wpList_app0 hgd s x t ho e i ht hi hown hs hx ?_
    exact hk ao c [] w rfl (by rw [updS_self hr]; exact h) (Below.refl _ _)
  | some ad =>
    obtain ⟨vs, hv1, hv2, hv3⟩ : ∃ vs : List Value, vs.length = m ∧ (∀ j u, vs[j]? = some u → w.cell? (ad.add j) = some u) ∧ ∀ u ∈ vs, u.oneCell' = true := by
      by_cases h0 : 0 < m
      · obtain ⟨b, off, e1, -, hc⟩ := hL.mem h0
        cases e1
        have hsome : ∀ j, j < m → ∃ ai ni ci, w.cell? ⟨b, off + j, none⟩ = some (.slice ai ni ci) := fun j hj => by
          obtain ⟨ai, ni, ci, h1, -⟩ := hc j hj; exact ⟨ai, ni, ci, h1⟩
        have hget : ∀ j u, ((List.range m).map fun j => (w.cell? ⟨b, off + j, none⟩).getD undef)[j]? = some u → j < m ∧ u = (w.cell? ⟨b, off + j, none⟩).getD undef := fun j u hj => by
          rw [List.getElem?_map] at hj
          by_cases hjm : j < m
          · rw [List.getElem?_range hjm] at hj
            simp only [Option.map_some, Option.some.injEq] at hj
            exact ⟨hjm, hj.symm⟩
          · rw [List.getElem?_eq_none (by simpa using hjm)] at hj; cases hj
        refine ⟨(List.range m).map fun j => (w.cell? ⟨b, off + j, none⟩).getD undef, by simp, fun j u hj => ?_, fun u hu => ?_⟩
        · obtain ⟨hjm, rfl⟩ := hget j u hj
          obtain ⟨ai, ni, ci, h1⟩ := hsome j hjm
          rw [add_off, h1]; rfl
        · obtain ⟨j, hj⟩ := List.getElem?_of_mem hu
          obtain ⟨hjm, rfl⟩ := hget j u hj
          obtain ⟨ai, ni, ci, h1⟩ := hsome j hjm
          rw [h1]; rfl
      · exact ⟨[], by simp; omega, fun j u hj => by simp at hj, fun u hu => by cases hu⟩
    refine h.wpList_app hgd s x t ho tg e i z 1 bytes ht hi hz hsize hby hzs (Nat.lt_succ_self 0) hr hs ad m lc hx vs (by rw [hv1, Nat.mul_one]) hv2 hv3 (by rw [Nat.zero_add]; exact h63) (by rw [Nat.zero_add]; exact hbytes) fun bo d w' h1 h2 => ?_
    rw [Nat.zero_add] at h1 ⊢
    exact hk bo d vs w' hv1 h1 h2
/-- One more hand. -/
theorem list2_more {w wr : World} {M1 : Nat} (HM : ManyI base w R o hb M1 wr) (hM : M1 + 1 ≤ 1000000) {bo : Option Addr} {d : Nat} {w2 : World} {R1 : Nat × Nat × Nat → Rw} (h1 : Hold base wr R1) (b1 : Hn R1 o hb M1)
    (e11 : R1 (o, 1, 0) = R (o, 1, 0)) (e12 : R1 (o, 2, 0) = R (o, 2, 0)) (e1N : ∀ t, t.1 ≠ o → R1 t = R t) (hL1 : Below base w wr)
    (hH : Hold base w2 (updR R1 (o, 3, 0) ⟨27, 1, bo, M1 + 1, d, ((List.range M1).map fun k => (R1 (o, 4, k)).v) ++ [.slice none 0 0]⟩)) (hB : Below base wr w2) :
    ManyI base w R o hb (M1 + 1) (w2.setCell ⟨hb, 2, none⟩ (.slice bo (M1 + 1) d)) := by
  obtain ⟨oo, on, oc, ys, l5⟩ := b1.outer
  obtain ⟨mo, mc, l3⟩ := b1.many
  have hob := b1.obj
  have hob2 := (updR_ne (R := R1) (r := ⟨27, 1, bo, M1 + 1, d, ((List.range M1).map fun k => (R1 (o, 4, k)).v) ++ [.slice none 0 0]⟩) (show (o, 0, 0) ≠ (o, 3, 0) by simp)).trans hob
  have h3 := hH.put hob2 2 (.slice bo (M1 + 1) d)
  have h4 := h3.add (o, 4, M1) (r := ⟨3, 1, none, 0, 0, []⟩) (World.ownsRow_nil _ _ _ _) fun s _ g hg => by cases hg
  refine ⟨_, h4, ?_, ?_, ?_, ?_, hL1.trans (hB.trans (hH.putB hob2 2 _))⟩
  · refine b1.more hM (bo := bo) (d := d) ?_ ?_ ?_ ?_ ?_ ?_ ?_
    · rw [updR_ne (by simp), updR_eq]; rfl
    · rw [updR_ne (by simp), updR_ne (by simp), updR_ne (by simp)]
    · rw [updR_ne (by simp), updR_ne (by simp), updR_ne (by simp)]
    · rw [updR_ne (by simp), updR_ne (by simp), updR_eq]
    · rw [updR_eq]
    · rw [updR_ne (by simp), updR_ne (by simp), updR_ne (by simp)]
    · intro k hk
      rw [updR_ne (by simp; omega), updR_ne (by simp), updR_ne (by simp)]
  · rw [updR_ne (by simp), updR_ne (by simp), updR_ne (by simp)]; exact e11
  · rw [updR_ne (by simp), updR_ne (by simp), updR_ne (by simp)]; exact e12
  · intro t ht
    rw [updR_ne (by intro e; exact ht (by rw [e])), updR_ne (by intro e; exact ht (by rw [e])), updR_ne (by intro e; exact ht (by rw [e]))]
    exact e1N t ht
/-- Behind both appends and stores: no list is laid yet. -/
theorem list2_start {w5 : World} {M1 n : Nat} {zss : List (List Int)} {R1 R5 : Nat × Nat × Nat → Rw} (b1 : Hn R1 o hb M1) (hM : n ≤ M1)
    (e11 : R1 (o, 1, 0) = R (o, 1, 0)) (e12 : R1 (o, 2, 0) = R (o, 2, 0)) (e1N : ∀ t, t.1 ≠ o → R1 t = R t)
    {og oc l1 l2 : Nat} {vs : List Value} (hvs : vs.length = n) (h5 : Hold base w5 R5) (hB : Below base w w5)
    (r0 : R5 (o, 0, 0) = ⟨31, 4, some ⟨hb, 0, none⟩, 1, 1, [(R1 (o, 1, 0)).v, (R1 (o, 2, 0)).v, (R1 (o, 3, 0)).v, .slice (some ⟨og, 0, none⟩) (n + 2) oc]⟩)
    (r5 : R5 (o, 5, 0) = ⟨25, 1, some ⟨og, 0, none⟩, n + 2, oc, vs ++ [.slice (some ⟨l1, 0, none⟩) 1 1, .slice (some ⟨l2, 0, none⟩) 1 1]⟩)
    (r6 : R5 (o, 6, 0) = ⟨3, 1, some ⟨l1, 0, none⟩, 1, 1, [.int .i64 (-7701)]⟩) (r7 : R5 (o, 6, 1) = ⟨3, 1, some ⟨l2, 0, none⟩, 1, 1, [.int .i64 (-7702)]⟩)
    (rN : ∀ t, t ≠ (o, 0, 0) → t ≠ (o, 5, 0) → t ≠ (o, 6, 0) → t ≠ (o, 6, 1) → R5 t = R1 t) : ListI base w R o hb n zss og oc 0 w5 := by
  have q1 : R5 (o, 1, 0) = R1 (o, 1, 0) := rN _ (by simp) (by simp) (by simp) (by simp)
  have q2 : R5 (o, 2, 0) = R1 (o, 2, 0) := rN _ (by simp) (by simp) (by simp) (by simp)
  have q3 : R5 (o, 3, 0) = R1 (o, 3, 0) := rN _ (by simp) (by simp) (by simp) (by simp)
  have q4 : ∀ k, R5 (o, 4, k) = R1 (o, 4, k) := fun k => rN _ (by simp) (by simp) (by simp) (by simp)
  refine ⟨M1, l1, l2, fun _ => 0, fun _ => 0, _, R5, h5, ?_, hM, r5, fun k hk => absurd hk (Nat.not_lt_zero _), ?_, ?_, fun k hk => absurd hk (Nat.not_lt_zero _), r6, r7, q1.trans e11, q2.trans e12, ?_, hB⟩
  · refine ⟨?_, by rw [q1]; exact b1.one, by rw [q2]; exact b1.two, ?_, fun k hk => by rw [q4]; exact b1.els k hk, ⟨_, _, _, _, r5⟩, b1.bnd⟩
    · rw [r0, q1, q2, q3, r5]; rfl
    · obtain ⟨ao, c, e⟩ := b1.many
      exact ⟨ao, c, by rw [q3, e]; congr 1; exact List.map_congr_left fun k _ => by rw [q4]⟩
  · rw [List.getElem?_append_right (by omega), hvs, Nat.sub_self]; rfl
  · rw [List.getElem?_append_right (by omega), hvs, Nat.add_sub_cancel_left]; rfl
  · intro t ht
    rw [rN t (by intro e; exact ht (by rw [e])) (by intro e; exact ht (by rw [e])) (by intro e; exact ht (by rw [e])) (by intro e; exact ht (by rw [e]))]
    exact e1N t ht
/-- One list more is laid. -/
theorem list2_step {w1 w2 : World} {n i : Nat} {zss : List (List Int)} {og oc M' l1 l2 : Nat} {gk dk : Nat → Nat} {ys : List Value} {R1 R2 : Nat × Nat × Nat → Rw} (hi : i < n)
    (b1 : Hn R1 o hb M') (hM : n ≤ M') (r5 : R1 (o, 5, 0) = ⟨25, 1, some ⟨og, 0, none⟩, n + 2, oc, ys⟩) (hk : ∀ k, k < i → ys[k]? = some (.slice (some ⟨gk k, 0, none⟩) (zss.getD k []).length (dk k)))
    (y1 : ys[n]? = some (.slice (some ⟨l1, 0, none⟩) 1 1)) (y2 : ys[n + 1]? = some (.slice (some ⟨l2, 0, none⟩) 1 1))
    (hg : ∀ k, k < i → R1 (o, 4, k) = ⟨3, 1, some ⟨gk k, 0, none⟩, dk k, dk k, (mkd mkS (zss.getD k []) (dk k)).map (Value.int .i64)⟩ ∧ (zss.getD k []).length + 2 ≤ dk k)
    (r6 : R1 (o, 6, 0) = ⟨3, 1, some ⟨l1, 0, none⟩, 1, 1, [.int .i64 (-7701)]⟩) (r7 : R1 (o, 6, 1) = ⟨3, 1, some ⟨l2, 0, none⟩, 1, 1, [.int .i64 (-7702)]⟩)
    (e1 : R1 (o, 1, 0) = R (o, 1, 0)) (e2 : R1 (o, 2, 0) = R (o, 2, 0)) (eN : ∀ t, t.1 ≠ o → R1 t = R t) (hB : Below base w w1)
    {mo : Option Addr} {mc : Nat} (l3 : R1 (o, 3, 0) = ⟨27, 1, mo, M', mc, (List.range M').map fun k => (R1 (o, 4, k)).v⟩)
    {g d : Nat} (hd : (zss.getD i []).length + 2 ≤ d) (H2 : Hold base w2 R2) (hB2 : Below base w1 w2) (s4 : R2 (o, 4, i) = ⟨3, 1, some ⟨g, 0, none⟩, d, d, (mkd mkS (zss.getD i []) d).map (Value.int .i64)⟩)
    (s3 : R2 (o, 3, 0) = ⟨27, 1, mo, M', mc, ((List.range M').map fun k => (R1 (o, 4, k)).v).set i (.slice (some ⟨g, 0, none⟩) d d)⟩) (sN : ∀ t, t ≠ (o, 3, 0) → t ≠ (o, 4, i) → R2 t = R1 t) :
    ListI base w R o hb n zss og oc (i + 1) (w2.setCell ⟨og, i, none⟩ (.slice (some ⟨g, 0, none⟩) (zss.getD i []).length d)) := by
  have s5 : R2 (o, 5, 0) = _ := (sN _ (by simp) (by simp)).trans r5
  have h3 := H2.put s5 i (.slice (some ⟨g, 0, none⟩) (zss.getD i []).length d)
  have hyl : ys.length = n + 2 := by have := (H2.cap s5).2.2.1; omega
  refine ⟨M', l1, l2, fun k => if k = i then g else gk k, fun k => if k = i then d else dk k, _, _, h3, ?_, hM, updR_eq, ?_, ?_, ?_, ?_, ?_, ?_, ?_, ?_, ?_, hB.trans (hB2.trans (H2.putB s5 i _))⟩
  · refine b1.laid (show i < M' by omega) l3 (g := g) (d := d) (S := mkd mkS (zss.getD i []) d) ?_ ?_ ?_ ?_ ?_ r5 updR_eq ?_
    · rw [updR_ne (by simp)]; exact sN _ (by simp) (by simp)
    · rw [updR_ne (by simp)]; exact sN _ (by simp) (by simp)
    · rw [updR_ne (by simp)]; exact sN _ (by simp) (by simp)
    · rw [updR_ne (by simp)]; exact s3
    · rw [updR_ne (by simp)]; exact s4
    · intro k hki
      rw [updR_ne (by simp)]
      exact sN _ (by simp) (by simpa using hki)
  · intro k hk'
    by_cases e : k = i
    · subst e
      dsimp only
      rw [List.getElem?_set_self (by omega), if_pos rfl, if_pos rfl]
    · dsimp only
      rw [List.getElem?_set_ne (by omega), if_neg e, if_neg e]
      exact hk k (by omega)
  · rw [List.getElem?_set_ne (by omega)]; exact y1
  · rw [List.getElem?_set_ne (by omega)]; exact y2
  · intro k hk'
    by_cases e : k = i
    · subst e
      dsimp only
      rw [updR_ne (by simp), if_pos rfl, if_pos rfl]; exact ⟨s4, hd⟩
    · dsimp only
      rw [updR_ne (by simp), if_neg e, if_neg e, sN _ (by simp) (by simpa using e)]
      exact hg k (by omega)
  · rw [updR_ne (by simp), sN _ (by simp) (by simp)]; exact r6
  · rw [updR_ne (by simp), sN _ (by simp) (by simp)]; exact r7
  · rw [updR_ne (by simp), sN _ (by simp) (by simp)]; exact e1
  · rw [updR_ne (by simp), sN _ (by simp) (by simp)]; exact e2
  · intro t ht
    rw [updR_ne (by intro e; exact ht (by rw [e])), sN t (by intro e; exact ht (by rw [e])) (by intro e; exact ht (by rw [e]))]
    exact eN t ht
set_option maxRecDepth 100000 in
set_option maxHeartbeats 6400000 in
theorem list2_any {M n : Nat} (H : Hold base w R) (B : Hn R o hb M) {w0 : World} {la : Option Addr} {lc : Nat} {zss : List (List Int)} (hL0 : Lss w0 la n lc zss) (h0 : w0.heap.size ≤ base) (hb0 : Below base w0 w) (hn : n ≤ 900000) :
    Calls Try.prog 58 #[.pointer (some ⟨hb, 0, none⟩), .slice la n lc] w (fun e w' => ∃ og oc, e = .returned (.slice (some ⟨og, 0, none⟩) n oc) ∧ ListI base w R o hb n zss og oc n w') := by
  have H0 : Hid (ManyI base w R o hb M w) := ⟨R, H, B, rfl, rfl, fun _ _ => rfl, Below.refl _ _⟩
  have hl : ∀ wx, Below base w wx → Lss wx la n lc zss := fun wx hb => hL0.below (hb0.trans hb) h0
  have HL := Lib.hid hl
  have HL0 := Lib.hid hL0
  have HB0 := Lib.hid (And.intro h0 hb0)
  clear H B hl hL0 h0 hb0
  go_enter Try.func58, Try.ntmps58
  go_wp2_with fail
  go_loopw [] (fun wx => ∃ M1 : Nat, Hid (ManyI base w R o hb M1 wx)) (fun wx => n - lenW ((wx.cell? ⟨hb, 2, none⟩).getD undef))
  case atStart => exact ⟨M, H0⟩
  case round =>
    clear H0
    obtain ⟨M1, HM⟩ := hrel
    obtain ⟨R1, h1, b1, e11, e12, e1N, hL1⟩ := HM.out
    obtain ⟨mo, mc, l3⟩ := b1.many
    obtain ⟨oo, on, oc, ys, l5⟩ := b1.outer
    have hob := b1.obj
    rw [l3, l5] at hob
    simp only [Rw.v] at hob
    have d2 : wr.cell? ⟨hb, 2, none⟩ = some (.slice mo M1 mc) := h1.cell hob 2 _ rfl
    have hbn := b1.bnd
    have HOB := Lib.hid hob
    have L3 := Lib.hid l3
    have L5 := Lib.hid l5
    have H1 := Lib.hid h1
    have B1 := Lib.hid b1
    have E := Lib.hid (And.intro e11 (And.intro e12 (And.intro e1N hL1)))
    by_cases hlt : M1 < n
    · have hlt' : (M1 : Int) < n := by omega
      obtain ⟨i0, hi0, hz0, hz1, hz2⟩ := info_parts (P := Try.prog) (e := 27) (z := .agg #[.slice none 0 0]) (size := 1) (bytes := 24) (by kernel_rfl)
      have HA : Hid (Hold base (wr.alloc (.cells #[.slice none 0 0] 27)) R1) := h1.via (abal _ _)
      have hA1 : (wr.alloc (.cells #[.slice none 0 0] 27)).cell? ⟨wr.heap.size, 0, none⟩ = some (.slice none 0 0) := by simp [go_sem]
      have d2' : (wr.alloc (.cells #[.slice none 0 0] 27)).cell? ⟨hb, 2, none⟩ = some (.slice mo M1 mc) := HA.out.cell hob 2 _ rfl
      have b63 : M1 + 1 ≤ maxLen := by unfold maxLen; omega
      have b64 : (M1 + 1) * 24 ≤ 140737488355328 := by omega
      have HA1 := Lib.hid hA1
      clear hob l3 l5 h1 b1 e11 e12 e1N hL1 hA1
      go_wp2_with (at_builtin; refine Hold.wpList_app HA.out rfl _ _ 28 rfl (o, 3, 0) 27 i0 (.agg #[.slice none 0 0]) 1 24 Try.underlying28 hi0 hz0 hz1 hz2 rfl (by decide) L3.out rfl ⟨wr.heap.size, 0, none⟩ 1 1 rfl [.slice none 0 0] rfl (by intro j u hj; (cases j with | zero => simp at hj; subst hj; exact HA1.out | succ j => simp at hj)) (by intro u hu; simp at hu; subst hu; rfl) b63 b64 ?_)
      intro bo d w2 hH hB
      have HB2 := Lib.hid (((abal wr (.cells #[.slice none 0 0] 27)).mono (H1.out.base)).trans hB)
      have HN := Lib.hid (list2_more HM.out (by omega) H1.out B1.out E.out.1 E.out.2.1 E.out.2.2.1 E.out.2.2.2 hH HB2.out)
      have r1 := hH.cell ((updR_ne (show (o, 0, 0) ≠ (o, 3, 0) by simp)).trans HOB.out) 2 _ rfl
      have r2 := hH.frozen ((updR_ne (show (o, 0, 0) ≠ (o, 3, 0) by simp)).trans HOB.out) 2
      have HD := Lib.hid d2
      have HD2 : Hid ((w2.setCell ⟨hb, 2, none⟩ (.slice bo (M1 + 1) d)).cell? ⟨hb, 2, none⟩ = some (.slice bo (M1 + 1) d)) := (hH.put ((updR_ne (show (o, 0, 0) ≠ (o, 3, 0) by simp)).trans HOB.out) 2 (.slice bo (M1 + 1) d)).cell updR_eq 2 _ rfl
      clear hH hB d2 d2'
      go_wp2
      go_roundw
      case rel => exact ⟨M1 + 1, HN⟩
      case measure => rw [HD.out, HD2.out]; show n - (M1 + 1) < n - M1; omega
    · have hge : (n : Int) ≤ M1 := by omega
      have HLS := Lib.hid (HL.out wr hL1)
      obtain ⟨i0, hi0, hz0, hz1, hz2⟩ := info_parts (P := Try.prog) (e := 25) (z := .slice none 0 0) (size := 1) (bytes := 24) (by kernel_rfl)
      have ho5 := h1.own (o, 5, 0)
      rw [l5] at ho5
      have h2 := h1.add (o, 5, 0) (r := ⟨25, 1, oo, 0, oc, []⟩) (own_shut ho5) fun s hs g hg hg' => h1.dis s (o, 5, 0) hs g hg' (by rw [l5]; cases oo <;> exact hg)
      have H2 := Lib.hid h2
      have d3 : wr.cell? ⟨hb, 3, none⟩ = some (.slice oo on oc) := h1.cell hob 3 _ rfl
      have f3 := h1.frozen hob 3
      have c0 : (0 : Int) ≤ oc := by omega
      have b63 : n ≤ maxLen := by unfold maxLen; omega
      have b64 : n * 24 ≤ 140737488355328 := by omega
      have HOB2 : Hid ((updR R1 (o, 5, 0) ⟨25, 1, oo, 0, oc, []⟩) (o, 0, 0) = ⟨31, 4, some ⟨hb, 0, none⟩, 1, 1, [(R1 (o, 1, 0)).v, (R1 (o, 2, 0)).v, .slice mo M1 mc, .slice oo on oc]⟩) := (updR_ne (by simp)).trans hob
      clear hob l3 l5 h1 b1 e11 e12 e1N hL1 ho5 h2
      go_wp2_with (at_builtin; refine Hold.wpList_lss H2.out rfl _ _ 29 rfl (o, 5, 0) 25 i0 (.slice none 0 0) 24 Try.underlying29 hi0 hz0 hz1 hz2 rfl updR_eq rfl rfl HLS.out b63 b64 ?_)
      intro bo d vs w2 hvs hH hB
      rw [updS_two] at hH
      obtain ⟨W3, HW3⟩ : ∃ z, Hid (w2.setCell ⟨hb, 3, none⟩ (.slice bo n d) = z) := ⟨_, rfl⟩
      have hob3 := (updR_ne (R := R1) (r := ⟨25, 1, bo, n, d, vs⟩) (show (o, 0, 0) ≠ (o, 5, 0) by simp)).trans HOB.out
      have r3 := hH.cell hob3 3 _ rfl
      have q3 := hH.frozen hob3 3
      have h3 := hH.put hob3 3 (.slice bo n d)
      have hb3 := hB.trans (hH.putB hob3 3 (.slice bo n d))
      rw [HW3.out] at h3 hb3
      have t3 := h3.cell updR_eq 3 _ rfl
      have H3 := Lib.hid h3
      have HB3 := Lib.hid hb3
      have HVS := Lib.hid hvs
      clear hH hB d2 d3 f3 h3 hb3 hvs
      go_upto_region 4 with fail
      rw [HW3.out]
      clear r3 q3
      have h4 := ((H3.out.alloc (o, 6, 0) (cs := #[.int .i64 (-7701)]) (E := 3) (sz := 1) (n := 1) rfl (by decide)).alloc (o, 6, 1) (cs := #[.int .i64 (-7702)]) (E := 3) (sz := 1) (n := 1) rfl (by decide)).via (abal _ (.cells #[.slice (some ⟨W3.heap.size, 0, none⟩) 1 1, .slice (some ⟨W3.heap.size + 1, 0, none⟩) 1 1] 25))
      simp only [World.size_alloc] at h4
      have H4 := Lib.hid h4
      have b65 : n + 2 ≤ maxLen := by unfold maxLen; omega
      have b66 : (n + 2) * 24 ≤ 140737488355328 := by omega
      have n1 : Hid ((((W3.alloc (.cells #[.int .i64 (-7701)] 3)).alloc (.cells #[.int .i64 (-7702)] 3)).alloc (.cells #[.slice (some ⟨W3.heap.size, 0, none⟩) 1 1, .slice (some ⟨W3.heap.size + 1, 0, none⟩) 1 1] 25)).cell? ⟨W3.heap.size + 2, 0, none⟩ = some (.slice (some ⟨W3.heap.size, 0, none⟩) 1 1)) := by show _ = _; simp [go_sem]
      have n2 : Hid ((((W3.alloc (.cells #[.int .i64 (-7701)] 3)).alloc (.cells #[.int .i64 (-7702)] 3)).alloc (.cells #[.slice (some ⟨W3.heap.size, 0, none⟩) 1 1, .slice (some ⟨W3.heap.size + 1, 0, none⟩) 1 1] 25)).cell? ⟨W3.heap.size + 2, 1, none⟩ = some (.slice (some ⟨W3.heap.size + 1, 0, none⟩) 1 1)) := by show _ = _; simp [go_sem]
      clear h4
      go_wp2_with (at_builtin; refine Hold.wpList_app H4.out rfl _ _ 29 rfl (o, 5, 0) 25 i0 (.slice none 0 0) 1 24 Try.underlying29 hi0 hz0 hz1 hz2 rfl (by decide) ((updR_ne (by simp)).trans ((updR_ne (by simp)).trans ((updR_ne (by simp)).trans updR_eq))) rfl ⟨W3.heap.size + 2, 0, none⟩ 2 2 rfl [.slice (some ⟨W3.heap.size, 0, none⟩) 1 1, .slice (some ⟨W3.heap.size + 1, 0, none⟩) 1 1] rfl (by intro j u hj; match j with | 0 => (simp at hj; subst hj; exact n1.out) | 1 => (simp at hj; subst hj; exact n2.out) | j + 2 => simp at hj) (by intro u hu; simp at hu; rcases hu with rfl | rfl <;> rfl) b65 b66 ?_)
      intro b5 d5 w5 hH hB
      have hcap := hH.cap updR_eq
      obtain ⟨og, rfl⟩ := hcap.2.2.2.2 (by omega)
      have hob5 := ((updR_ne (by simp)).trans ((updR_ne (by simp)).trans ((updR_ne (by simp)).trans updR_eq)) : (updR (updR (updR (updR (updR R1 (o, 5, 0) ⟨25, 1, bo, n, d, vs⟩) (o, 0, 0) ⟨31, 4, some ⟨hb, 0, none⟩, 1, 1, [(R1 (o, 1, 0)).v, (R1 (o, 2, 0)).v, .slice mo M1 mc, .slice oo on oc].set 3 (.slice bo n d)⟩) (o, 6, 0) ⟨3, 1, some ⟨W3.heap.size, 0, none⟩, 1, 1, [.int .i64 (-7701)]⟩) (o, 6, 1) ⟨3, 1, some ⟨W3.heap.size + 1, 0, none⟩, 1, 1, [.int .i64 (-7702)]⟩) (o, 5, 0) ⟨25, 1, some ⟨og, 0, none⟩, n + 2, d5, vs ++ [.slice (some ⟨W3.heap.size, 0, none⟩) 1 1, .slice (some ⟨W3.heap.size + 1, 0, none⟩) 1 1]⟩) (o, 0, 0) = _)
      have r5 := hH.cell hob5 3 _ rfl
      have q5 := hH.frozen hob5 3
      have h6 := hH.put hob5 3 (.slice (some ⟨og, 0, none⟩) (n + 2) d5)
      have hb6 := E.out.2.2.2.trans (HB3.out.trans (((abvia (abvia (abal W3 (.cells #[.int .i64 (-7701)] 3)) (abal _ (.cells #[.int .i64 (-7702)] 3))) (abal _ (.cells #[.slice (some ⟨W3.heap.size, 0, none⟩) 1 1, .slice (some ⟨W3.heap.size + 1, 0, none⟩) 1 1] 25))).mono H3.out.base).trans (hB.trans (hH.putB hob5 3 (.slice (some ⟨og, 0, none⟩) (n + 2) d5)))))
      have HS0 := Lib.hid (list2_start (zss := zss) (hb := hb) (l1 := W3.heap.size) (l2 := W3.heap.size + 1) B1.out (by omega) E.out.1 E.out.2.1 E.out.2.2.1 HVS.out h6 hb6 (by rw [updR_eq, L3.out]; rfl) (by rw [updR_ne (by simp), updR_eq]) (by rw [updR_ne (by simp), updR_ne (by simp), updR_ne (by simp), updR_eq]) (by rw [updR_ne (by simp), updR_ne (by simp), updR_eq]) (fun t h1 h2 h3 h4 => by rw [updR_ne h1, updR_ne h2, updR_ne h4, updR_ne h3, updR_ne h1, updR_ne h2]))
      clear hcap hob5 hH hB h6 hb6 E HVS H4 n1 n2 H3 HB3 HW3 HOB HOB2 L3 L5 H1 B1 HM HLS H2 t3
      go_wp2_with fail
      go_loopw [5] (fun v5 wx => ∃ i : Nat, i ≤ n ∧ v5 = .int .i64 i ∧ Hid (ListI base w R o hb n zss og d5 i wx)) (fun v5 _ => n - (RowKit.intOf v5).toNat)
      case atStart => exact ⟨0, Nat.zero_le _, rfl, HS0⟩
      case round =>
        clear HS0
        obtain ⟨i, hi, rfl, HI⟩ := hrel
        obtain ⟨M', l1, l2, gk, dk, ys, R2, h1, b1, hM, r5, hk, y1, y2, hg, r6, r7, e1, e2, eN, hB⟩ := HI.out
        obtain ⟨mo, mc, l3⟩ := b1.many
        have hob := b1.obj
        rw [l3, r5] at hob
        simp only [Rw.v] at hob
        have d3 : wr.cell? ⟨hb, 3, none⟩ = some (.slice (some ⟨og, 0, none⟩) (n + 2) d5) := h1.cell hob 3 _ rfl
        by_cases hlt : i < n
        · have hlt' : (i : Int) < n := by omega
          have hlt2 : (i : Int) < n + 2 := by omega
          have d2 : wr.cell? ⟨hb, 2, none⟩ = some (.slice mo M' mc) := h1.cell hob 2 _ rfl
          obtain ⟨mb, rfl⟩ := (h1.cap l3).2.2.2.2 (by have := (h1.cap l3).1; omega)
          obtain ⟨lb, lo, rfl, hlb, hcs⟩ := HL0.out.mem (by omega)
          obtain ⟨ai, ni, ci, dl0, hls⟩ := hcs i hlt
          have dl : wr.cell? ⟨lb, lo + i, none⟩ = some (.slice ai ni ci) := ((HB0.out.2.trans hB).cell (p := ⟨lb, lo + i, none⟩) (Nat.lt_of_lt_of_le hlb HB0.out.1)).trans dl0
          obtain ⟨eo, ed, ES, e4⟩ := b1.els i (by omega)
          have hmi : (i : Int) < M' := by omega
          have hni := hls.len
          have hld : Below base wr wr.drew := (Below.refl _ _).drew
          have CI := Lib.hid (ints_any (h1.via (adrew1 wr)) (tp := (o, 3, 0)) (tr := (o, 4, i)) (j := i) (by simp) l3 (ao := eo) (m := ed) (c := ed) (by rw [List.getElem?_map, List.getElem?_range (by omega)]; simp only [Option.map_some, e4, Rw.v]) e4 (la := ai) (ln := ni) (lc := ci) (l := zss.getD i []) (fun wx hb => hls.below (HB0.out.2.trans (hB.trans (hld.trans hb))) HB0.out.1))
          have HB1 := Lib.hid b1
          have HH1 := Lib.hid h1
          have HHM := Lib.hid hM
          have HR5 := Lib.hid r5
          have HK := Lib.hid hk
          have HY := Lib.hid (And.intro y1 y2)
          have HG := Lib.hid hg
          have HR6 := Lib.hid (And.intro r6 r7)
          have HE := Lib.hid (And.intro e1 (And.intro e2 (And.intro eN hB)))
          have HL3 := Lib.hid l3
          have HLD := Lib.hid hld
          have HOB := Lib.hid hob
          have HNI := Lib.hid hni
          have hne1 : ¬ hb = og := fun e => h1.dis (o, 0, 0) (o, 5, 0) (by simp) hb (by rw [hob]; rfl) (by rw [r5, e]; rfl)
          have hne2 : ¬ og = hb := fun e => hne1 e.symm
          have hne3 : ¬ og = lb := fun e => by
            have := (h1.lt r5).1
            have := HB0.out.1
            omega
          have hne4 : ¬ lb = og := fun e => hne3 e.symm
          have HDL : Hid (∀ wx, Below base wr wx → wx.cell? ⟨lb, lo + i, none⟩ = some (.slice ai ni ci)) := fun wx hb => ((HB0.out.2.trans (hB.trans hb)).cell (p := ⟨lb, lo + i, none⟩) (Nat.lt_of_lt_of_le hlb HB0.out.1)).trans dl0
          clear b1 h1 hM r5 hk y1 y2 hg r6 r7 e1 e2 eN hB l3 hld hob e4 hls hcs hlb dl0 HI
          go_upto_region 8 with fail
          go_region_held3 (fun wx => wx.cell? ⟨hb, 3, none⟩ = some (.slice (some ⟨og, 0, none⟩) (n + 2) d5) ∧ wx.cell? ⟨hb, 2, none⟩ = some (.slice (some ⟨mb, 0, none⟩) M' mc) ∧ wx.cell? ⟨lb, lo + i, none⟩ = some (.slice ai ni ci)) (go_keep)
            (first
            | (go_at_call 50; (with_reducible refine Calls.mono CI.out ?_); rintro e w5 ⟨g, d, R5, rfl, hd, hH5, s4, s3, sN, hB5⟩; have d5' := hH5.cell ((sN (o, 0, 0) (by simp) (by simp)).trans HOB.out) 3 _ rfl; have d6' := hH5.cell ((sN (o, 0, 0) (by simp) (by simp)).trans HOB.out) 2 _ rfl; clear d3 d2 dl; have d3 : w5.cell? ⟨hb, 3, none⟩ = some (.slice (some ⟨og, 0, none⟩) (n + 2) d5) := d5'; have d2 : w5.cell? ⟨hb, 2, none⟩ = some (.slice (some ⟨mb, 0, none⟩) M' mc) := d6'; have dl := HDL.out w5 (HLD.out.trans hB5); clear d5' d6'; have h5o := (sN (o, 5, 0) (by simp) (by simp)).trans HR5.out; have hyl : i < ys.length := (by have := (hH5.cap h5o).2.2.1; omega); have t5 := hH5.cell h5o i _ (List.getElem?_eq_getElem hyl); have t6 := hH5.frozen h5o i))
          have HST := Lib.hid (list2_step (hb := hb) hlt HB1.out HHM.out HR5.out HK.out HY.out.1 HY.out.2 HG.out HR6.out.1 HR6.out.2 HE.out.1 HE.out.2.1 HE.out.2.2.1 HE.out.2.2.2 HL3.out (g := g) (d := d) (by rw [HNI.out]; exact hd) hH5 (HLD.out.trans hB5) s4 s3 sN)
          rw [HNI.out] at HST
          clear hH5 s4 s3 sN hB5 h5o t5 t6 d3 d2 dl hyl hd
          go_wp2
          go_roundw
          case rel => exact ⟨i + 1, by omega, by go_num, HST⟩
          case measure => simp [RowKit.intOf]; omega
        · have hge : (n : Int) ≤ i := by omega
          obtain rfl : i = n := by omega
          have hcp := (h1.cap r5).1
          have z1 : (i : Int) ≤ d5 := by omega
          have z2 : (i : Int) ≤ i + 2 := by omega
          clear h1 b1 hM r5 hk y1 y2 hg r6 r7 e1 e2 eN hB l3 hob
          go_wp2
          go_ret
          exact ⟨og, d5, rfl, HI.out⟩
end
end Go.Proofs.Ytdedbfbkakofgaa

namespace Go.Proofs.Ytdedbfbkakofgaa
open Go.RowKit Go.Lib
set_option linter.unusedVariables false
set_option linter.unusedSimpArgs false
attribute [local go_sem] alloc_drewN setCell_drewN
/-- The mark of the k-th list. -/
def mkB (k : Nat) : Int := -1 - k
/-- The rows (o, ..) are the lists of a book that is kept in the object of tag tp: each full of its mark. -/
structure Bk2 (R : Nat × Nat × Nat → Rw) (tp : Nat × Nat × Nat) (o : Nat) (E0 : TypeId) (sz0 bb : Nat) (tl : List Value) (K : Nat) (mu : Int) : Prop where
  obj : R tp = ⟨E0, sz0, some ⟨bb, 0, none⟩, 1, 1, (R (o, 1, 0)).v :: .int .i64 mu :: tl⟩
  l1 : ∃ ao c, R (o, 1, 0) = ⟨25, 1, ao, K, c, (List.range K).map fun k => (R (o, 3, k)).v⟩
  e1 : ∀ k, k < K → ∃ ao n c, n ≤ 4264304 ∧ R (o, 3, k) = ⟨3, 1, ao, n, c, List.replicate n (.int .i64 (mkB k))⟩
  s0 : (K : Int) * 400 ≤ mu
  s1 : mu ≤ 4611686018427387904
  kb : K ≤ 83886
section
variable {base : Nat} {w : World} {R : Nat × Nat × Nat → Rw} {tp : Nat × Nat × Nat} {o bb sz0 : Nat} {E0 : TypeId} {tl : List Value}
theorem Bk2.congr {R' : Nat × Nat × Nat → Rw} {K : Nat} {mu : Int} (h : Bk2 R tp o E0 sz0 bb tl K mu) (h0 : R' tp = R tp) (hR : ∀ t, t.1 = o → R' t = R t) : Bk2 R' tp o E0 sz0 bb tl K mu := by
  refine ⟨?_, ?_, ?_, h.s0, h.s1, h.kb⟩
  · rw [h0, hR _ rfl]; exact h.obj
  · obtain ⟨ao, c, e⟩ := h.l1
    refine ⟨ao, c, ?_⟩
    rw [hR _ rfl, e]
    congr 1
    exact List.map_congr_left fun k _ => by rw [hR _ rfl]
  · intro k hk; rw [hR _ rfl]; exact h.e1 k hk
theorem room2_any (n c : Nat) (hn : n ≤ 17592186043904) (w : World) : Calls Try.prog 61 #[.int .i64 n, .int .i64 c] w (RetS w (.int .i64 (min c (n + 70000) : Nat))) := by
  by_cases h : (n : Int) + 70000 < c
  · rw [show min c (n + 70000) = n + 70000 by omega, Int.natCast_add]
    have HN := Lib.hid hn
    go_enter Try.func61, Try.ntmps61
    go_wp2
    go_ret
    exact RetS.mk rfl
  · rw [show min c (n + 70000) = c by omega]
    go_enter Try.func61, Try.ntmps61
    go_wp2
    go_ret
    exact RetS.mk rfl
set_option maxRecDepth 100000 in
set_option maxHeartbeats 1600000 in
theorem full2_any {v1 : Value} {mu n : Int} (H : Hold base w R) (hob : R tp = ⟨E0, sz0, some ⟨bb, 0, none⟩, 1, 1, v1 :: .int .i64 mu :: tl⟩) (hm : 0 ≤ mu) (hn : 0 ≤ n) (hmn : mu + 400 + n ≤ 4611686018427387904) :
    Calls Try.prog 18 #[.pointer (some ⟨bb, 0, none⟩), .int .i64 n] w (fun e w' => e = .returned (.bool (decide (33554432 < mu + 400 + n))) ∧ Hold base w' (updR R tp ⟨E0, sz0, some ⟨bb, 0, none⟩, 1, 1, v1 :: .int .i64 (mu + 400 + n) :: tl⟩) ∧ Below base w w') := by
  have d1 := H.cell hob 1 _ rfl
  have f1 := H.frozen hob 1
  have hP := H.put hob 1 (.int .i64 (mu + 400 + n))
  have HP := Lib.hid hP
  have HB := Lib.hid (H.putB hob 1 (.int .i64 (mu + 400 + n)))
  clear H hob hP
  go_enter Try.func18, Try.ntmps18
  go_wp2
  go_ret
  exact ⟨rfl, HP.out, HB.out⟩
set_option maxRecDepth 100000 in
set_option maxHeartbeats 1600000 in
theorem whole2_any {K : Nat} {mu : Int} (H : Hold base w R) (B : Bk2 R tp o E0 sz0 bb tl K mu) :
    Calls Try.prog 17 #[.pointer (some ⟨bb, 0, none⟩)] w (RetS w (.bool true)) := by
  obtain ⟨ao1, c1, l1⟩ := B.l1
  have hob := B.obj
  rw [l1] at hob
  simp only [Rw.v] at hob
  have d0 : w.cell? ⟨bb, 0, none⟩ = some (.slice ao1 K c1) := H.cell hob 0 _ rfl
  have hk4 := B.kb
  have P1 := H.cap l1
  have HH := Lib.hid H
  have HB := Lib.hid B
  have HL1 := Lib.hid l1
  have HP1 := Lib.hid P1
  clear H B hob l1 P1
  go_enter Try.func17, Try.ntmps17
  go_wp2_with fail
  go_loopw [3, 4] (fun v3 v4 wr => ∃ k : Nat, k ≤ K ∧ v3 = .int .i64 k ∧ wr = w) (fun v3 _ _ => K - (RowKit.intOf v3).toNat)
  case atStart => exact ⟨0, Nat.zero_le _, rfl, rfl⟩
  case round =>
    obtain ⟨k, hk, rfl, rfl⟩ := hrel
    by_cases hlt : k < K
    · have hlt' : (k : Int) < K := by omega
      obtain ⟨g1, hg1⟩ := HP1.out.2.2.2.2 (by have := HP1.out.1; omega)
      subst hg1
      obtain ⟨bo1, n1, x1, hn1, e1⟩ := HB.out.e1 k hlt
      have r1 : wr.cell? ⟨g1, k, none⟩ = some (.slice bo1 n1 x1) := HH.out.cell HL1.out k _ (by rw [List.getElem?_map, List.getElem?_range hlt]; simp only [Option.map_some, e1, Rw.v])
      obtain ⟨m1, HM1⟩ : ∃ z, Hid (mkB k = z) := ⟨_, rfl⟩
      have hw1 : IntKind.i64.wrap (-1 - (k : Int)) = m1 := by rw [← HM1.out]; exact IntWalk.i64_in _ (by omega)
      have hb1 : (m1 != m1) = false := by simp
      rw [HM1.out] at e1
      have E1 := Lib.hid e1
      have HK1 := Lib.hid (HH.out.cap e1)
      clear e1
      go_wp2_with fail
      go_loopw [4] (fun v4 w4 => ∃ j : Nat, j ≤ n1 ∧ v4 = .int .i64 j ∧ w4 = wr) (fun v4 _ => n1 - (RowKit.intOf v4).toNat)
      case atStart => exact ⟨0, Nat.zero_le _, rfl, rfl⟩
      case round =>
        obtain ⟨j, hj, rfl, rfl⟩ := hrel
        by_cases hlj : j < n1
        · have hlj' : (j : Int) < n1 := by omega
          obtain ⟨q, hq⟩ := HK1.out.2.2.2.2 (by have := HK1.out.1; omega)
          subst hq
          have s1 := HH.out.cell E1.out j (.int .i64 m1) (by rw [List.getElem?_replicate, if_pos hlj])
          go_wp2
          go_roundw
          case rel => first | exact ⟨j + 1, by omega, by go_num, by first | rfl | trivial⟩ | ((repeat apply Exists.intro); exact ⟨⟨j + 1, by omega, by go_num, rfl⟩, rfl⟩)
          case measure => simp [RowKit.intOf]; omega
        · have hge : (n1 : Int) ≤ j := by omega
          go_wp2
          go_roundw
          case rel => first | exact ⟨k + 1, by omega, by go_num, by first | rfl | trivial⟩ | ((repeat apply Exists.intro); exact ⟨⟨k + 1, by omega, by go_num, rfl⟩, rfl⟩)
          case measure => simp [RowKit.intOf]; omega
    · have hge : (K : Int) ≤ k := by omega
      go_wp2
      go_ret
      exact RetS.mk rfl
end
end Go.Proofs.Ytdedbfbkakofgaa

namespace Go.Proofs.Ytdedbfbkakofgaa
open Go.RowKit Go.Lib
set_option linter.unusedVariables false
set_option linter.unusedSimpArgs false
attribute [local go_sem] alloc_drewN setCell_drewN
section
variable {base : Nat} {w : World} {R : Nat × Nat × Nat → Rw} {o bb sz0 p : Nat} {E0 : TypeId} {tl : List Value}
theorem rep_set {xs : List Value} {m : Value} {j : Nat} (h : j < xs.length) : (List.replicate j m ++ xs.drop j).set j m = List.replicate (j + 1) m ++ xs.drop (j + 1) := by
  rw [List.set_append_right _ _ (by simp)]
  simp only [List.length_replicate, Nat.sub_self]
  rw [List.drop_eq_getElem_cons h, List.set_cons_zero, List.replicate_succ', List.append_assoc]
  rfl
def lenX : Value → Nat
  | .slice _ n _ => n
  | _ => 0
/-- The first i lists are looked at. -/
def T1 (base : Nat) (w : World) (R : Nat × Nat × Nat → Rw) (o bb sz0 p : Nat) (E0 : TypeId) (tl : List Value) (K : Nat) (mu : Int) (i : Nat) (wx : World) : Prop :=
  ∃ (K' : Nat) (mu' : Int) (R' : Nat × Nat × Nat → Rw), K ≤ K' ∧ Hold base wx R' ∧ Bk2 R' (o, 0, 0) o E0 sz0 bb tl K' mu' ∧ (∀ j, i ≤ j → R' (p, 1, j) = R (p, 1, j)) ∧
    (∀ t, t ≠ (o, 0, 0) → t ≠ (o, 1, 0) → (∀ k, t ≠ (o, 3, k)) → (∀ j, t ≠ (p, 1, j)) → R' t = R t) ∧ Below base w wx ∧ mu ≤ mu' ∧ mu' ≤ mu + i * 68229264 ∧ (∀ k, K ≤ k → k < K' → (R' (o, 3, k)).n ≤ 4194304)
/-- Behind Take. -/
def TakeP2 (base : Nat) (w : World) (R : Nat × Nat × Nat → Rw) (o bb sz0 p : Nat) (E0 : TypeId) (tl : List Value) (K : Nat) (mu : Int) (N : Nat) (wx : World) : Prop :=
  ∃ (K' : Nat) (mu' : Int) (R' : Nat × Nat × Nat → Rw), K ≤ K' ∧ Hold base wx R' ∧ Bk2 R' (o, 0, 0) o E0 sz0 bb tl K' mu' ∧
    (∀ t, t ≠ (o, 0, 0) → t ≠ (o, 1, 0) → (∀ k, t ≠ (o, 3, k)) → (∀ j, t ≠ (p, 1, j)) → R' t = R t) ∧ Below base w wx ∧ mu ≤ mu' ∧ mu' ≤ mu + N * 68229264
/-- A book that has looked at more. -/
theorem Bk2.much {K : Nat} {mu mu' : Int} (B : Bk2 R (o, 0, 0) o E0 sz0 bb tl K mu) {v1 : Value} (hv : (R (o, 1, 0)).v = v1) (h : mu ≤ mu') (h2 : mu' ≤ 4611686018427387904) : Bk2 (updR R (o, 0, 0) ⟨E0, sz0, some ⟨bb, 0, none⟩, 1, 1, v1 :: .int .i64 mu' :: tl⟩) (o, 0, 0) o E0 sz0 bb tl K mu' := by
  have s0 := B.s0
  obtain ⟨ao, c, l1⟩ := B.l1
  refine ⟨by rw [updR_eq, updR_ne (by simp), hv], ⟨ao, c, ?_⟩, fun k hk => ?_, by omega, h2, B.kb⟩
  · rw [updR_ne (by simp), l1]
    congr 1
    exact List.map_congr_left fun k _ => by rw [updR_ne (by simp)]
  · rw [updR_ne (by simp)]; exact B.e1 k hk
/-- A book with a list more. -/
theorem Bk2.more {K : Nat} {mu mu' : Int} {R' : Nat × Nat × Nat → Rw} (B : Bk2 R (o, 0, 0) o E0 sz0 bb tl K mu) (hz : mu + 400 ≤ mu') (hz2 : mu' ≤ 33554432) {b1 sa : Option Addr} {d1 sn sc : Nat}
    (e0 : R' (o, 0, 0) = ⟨E0, sz0, some ⟨bb, 0, none⟩, 1, 1, .slice b1 (K + 1) d1 :: .int .i64 mu' :: tl⟩)
    (e1 : R' (o, 1, 0) = ⟨25, 1, b1, K + 1, d1, ((List.range K).map fun k => (R (o, 3, k)).v) ++ [.slice sa sn sc]⟩)
    (e3 : R' (o, 3, K) = ⟨3, 1, sa, sn, sc, List.replicate sn (.int .i64 (mkB K))⟩) (hn1 : sn ≤ 4264304) (h3 : ∀ k, k < K → R' (o, 3, k) = R (o, 3, k)) : Bk2 R' (o, 0, 0) o E0 sz0 bb tl (K + 1) mu' := by
  have s0 := B.s0
  refine ⟨by rw [e0, e1]; rfl, ⟨b1, d1, ?_⟩, fun k hk => ?_, by push_cast; omega, by omega, by omega⟩
  · rw [e1, List.range_succ, List.map_append, List.map_singleton, e3]
    congr 2
    exact List.map_congr_left fun k hk => by rw [h3 k (by simpa using hk)]
  · by_cases e : k = K
    · subst e; exact ⟨_, _, _, hn1, e3⟩
    · rw [h3 k (by omega)]; exact B.e1 k (by omega)
theorem map_set {K k : Nat} (hk : k < K) (f g : Nat → Value) (v : Value) (hv : g k = v) (hfg : ∀ j, j ≠ k → g j = f j) : ((List.range K).map f).set k v = (List.range K).map g := by
  apply List.ext_getElem?
  intro j
  rw [List.getElem?_set]
  by_cases e : k = j
  · subst e
    simp [hk, hv]
  · rw [if_neg e, List.getElem?_map, List.getElem?_map]
    cases hj : (List.range K)[j]? with
    | none => rfl
    | some q =>
      have hq : q = j := by
        obtain ⟨h1, h2⟩ := List.getElem?_eq_some_iff.1 hj
        rw [List.getElem_range] at h2; exact h2.symm
      subst hq
      simp [hfg q (fun e' => e e'.symm)]
/-- A book with a list grown. -/
theorem Bk2.grown {K : Nat} {mu : Int} {R' : Nat × Nat × Nat → Rw} (B : Bk2 R (o, 0, 0) o E0 sz0 bb tl K mu) {k : Nat} (hk : k < K) {b1 bo1 : Option Addr} {d1 n1 c1 : Nat}
    (l1 : R (o, 1, 0) = ⟨25, 1, b1, K, d1, (List.range K).map fun k => (R (o, 3, k)).v⟩) (e0 : R' (o, 0, 0) = R (o, 0, 0))
    (e1 : R' (o, 1, 0) = ⟨25, 1, b1, K, d1, ((List.range K).map fun k => (R (o, 3, k)).v).set k (.slice bo1 n1 c1)⟩)
    (e3 : R' (o, 3, k) = ⟨3, 1, bo1, n1, c1, List.replicate n1 (.int .i64 (mkB k))⟩) (hn1 : n1 ≤ 4264304) (h3 : ∀ j, j ≠ k → R' (o, 3, j) = R (o, 3, j)) : Bk2 R' (o, 0, 0) o E0 sz0 bb tl K mu := by
  have hob := B.obj
  refine ⟨by rw [e0, hob, e1, l1]; rfl, ⟨b1, d1, ?_⟩, fun j hj => ?_, B.s0, B.s1, B.kb⟩
  · rw [e1, map_set hk (fun k => (R (o, 3, k)).v) (fun k => (R' (o, 3, k)).v) _ (by rw [e3]; rfl) (fun j hj => by rw [h3 j hj])]
  · by_cases e : j = k
    · subst e; exact ⟨_, _, _, hn1, e3⟩
    · rw [h3 j e]; exact B.e1 j hj
set_option maxRecDepth 100000 in
set_option maxHeartbeats 6400000 in
theorem take2_any {K N lc : Nat} {mu : Int} {q : Nat × Nat × Nat} {la : Option Addr} (H : Hold base w R) (B : Bk2 R (o, 0, 0) o E0 sz0 bb tl K mu) (hp : p ≠ o) (hq1 : q ≠ (o, 0, 0)) (hq2 : q ≠ (o, 1, 0)) (hq3 : ∀ k, q ≠ (o, 3, k)) (hq4 : ∀ j, q ≠ (p, 1, j))
    (hq : R q = ⟨25, 1, la, N, lc, (List.range N).map fun i => (R (p, 1, i)).v⟩) (he : ∀ i, i < N → ∃ ao n c xs, n ≤ 4194304 ∧ R (p, 1, i) = ⟨3, 1, ao, n, c, xs⟩) (hN : mu + N * 68229264 ≤ 4611686018427387904) :
    Calls Try.prog 16 #[.pointer (some ⟨bb, 0, none⟩), .slice la N lc] w (fun e w' => e = .returned (.tuple #[]) ∧ TakeP2 base w R o bb sz0 p E0 tl K mu N w') := by
  obtain ⟨ao0, c0, l0⟩ := B.l1
  have hob := B.obj
  rw [l0] at hob
  simp only [Rw.v] at hob
  have d0 : w.cell? ⟨bb, 0, none⟩ = some (.slice ao0 K c0) := H.cell hob 0 _ rfl
  have hcap := H.cap hq
  have HT0 : Hid (T1 base w R o bb sz0 p E0 tl K mu 0 w) := ⟨K, mu, R, Nat.le_refl _, H, B, fun _ _ => rfl, fun _ _ _ _ _ => rfl, Below.refl _ _, Int.le_refl _, by omega, fun k h1 h2 => absurd h2 (by omega)⟩
  have HQ := Lib.hid hq
  have HE := Lib.hid he
  have HNN := Lib.hid hN
  have HCAP := Lib.hid hcap
  have HP := Lib.hid hp
  have HQN := Lib.hid (And.intro hq1 (And.intro hq2 (And.intro hq3 hq4)))
  have hnc : N ≤ maxLen := Nat.le_trans hcap.1 hcap.2.1
  unfold maxLen at hnc
  have hmu0 : 0 ≤ mu := by have := B.s0; omega
  clear H B hob l0 hq he hN hcap hp hq1 hq2 hq3 hq4
  go_enter Try.func16, Try.ntmps16
  go_wp2_with fail
  go_loopw [5, 6, 7] (fun v5 v6 v7 wx => ∃ i : Nat, i ≤ N ∧ v5 = .int .i64 i ∧ Hid (T1 base w R o bb sz0 p E0 tl K mu i wx)) (fun v5 _ _ _ => N - (RowKit.intOf v5).toNat)
  case atStart => exact ⟨0, Nat.zero_le _, rfl, HT0⟩
  case round =>
    clear HT0 d0
    obtain ⟨i, hi, rfl, HT⟩ := hrel
    by_cases hlt : i < N
    · have hlt' : (i : Int) < N := by omega
      obtain ⟨K1, mu1, R1, hK1, h1, b1, hE1, hN1, hB1, hm1, hm2, hfr⟩ := HT.out
      have HFR := Lib.hid hfr
      obtain ⟨ao1, c1, l1⟩ := b1.l1
      have hob := b1.obj
      rw [l1] at hob
      simp only [Rw.v] at hob
      have s1 := b1.s0
      obtain ⟨g, rfl⟩ := HCAP.out.2.2.2.2 (by have := HCAP.out.1; omega)
      obtain ⟨ea, en, ec, xs, hen, ee⟩ := HE.out i hlt
      have hq1 := (hN1 q HQN.out.1 HQN.out.2.1 HQN.out.2.2.1 HQN.out.2.2.2).trans HQ.out
      have hqi : ((List.range N).map fun i => (R (p, 1, i)).v)[i]? = some (.slice ea en ec) := by rw [List.getElem?_map, List.getElem?_range hlt]; simp only [Option.map_some, ee, Rw.v]
      have di : wr.cell? ⟨g, i, none⟩ = some (.slice ea en ec) := h1.cell hq1 i _ hqi
      have ee1 := (hE1 i (Nat.le_refl _)).trans ee
      have hec := h1.cap ee1
      obtain ⟨V, hV⟩ : ∃ V : Nat, min ec (en + 70000) = V := ⟨_, rfl⟩
      have hV1 : V ≤ 4264304 := by omega
      have hV2 : en ≤ V := by omega
      have CR := Lib.hid (fun wy => room2_any en ec (by omega) wy)
      rw [hV] at CR
      have hnn := HNN.out
      have hiN : (i : Int) * 68229264 + 68229264 ≤ N * 68229264 := by omega
      obtain ⟨V6, hV6⟩ : ∃ z : Int, 16 * (V : Int) = z := ⟨_, rfl⟩
      have hwV : IntKind.i64.wrap (16 * (V : Int)) = V6 := by rw [hV6]; exact IntWalk.i64_in _ (by omega)
      have CF := Lib.hid (full2_any (h1.via (adrew1 wr)) hob (n := V6) (by omega) (by omega) (by omega))
      obtain ⟨mu2, hmu2⟩ : ∃ z : Int, mu1 + 400 + V6 = z := ⟨_, rfl⟩
      rw [hmu2] at CF
      have HZ : Hid (mu1 + 400 ≤ mu2 ∧ mu2 ≤ mu + (i + 1 : Nat) * 68229264 ∧ mu ≤ mu2) := ⟨by omega, by push_cast; omega, by omega⟩
      have H1 := Lib.hid h1
      have B1 := Lib.hid b1
      have E1 := Lib.hid hE1
      have N1 := Lib.hid hN1
      have L1 := Lib.hid l1
      have HB1 := Lib.hid hB1
      have HOB := Lib.hid hob
      have HQ1 := Lib.hid hq1
      have EE1 := Lib.hid ee1
      have HEC := Lib.hid hec
      have HK1 := Lib.hid hK1
      have HQI := Lib.hid hqi
      have hec1 : (en : Int) ≤ ec := by omega
      have HV := Lib.hid (And.intro hV hV2)
      clear hfr h1 b1 hE1 hN1 l1 hB1 hob hq1 ee1 hec hK1 ee hqi hm1 hm2 s1 hnn hiN hmu2 HT hV hV2 hV6
      go_upto_region 4 with fail
      go_region_held3 (fun wx => wx.cell? ⟨g, i, none⟩ = some (.slice ea en ec)) (go_keep)
        (first
        | (go_at_call 61; (with_reducible refine Calls.mono (CR.out _) ?_); rintro e w5 ⟨rfl, rfl⟩)
        | (go_at_call 18; (with_reducible refine Calls.mono CF.out ?_); rintro e w6 ⟨rfl, h6, hB6⟩; clear di; have di := h6.cell ((updR_ne HQN.out.1).trans HQ1.out) i _ HQI.out))
      have hbm : mu2 ≤ 4611686018427387904 := by
        have h1 := HZ.out.2.1
        have h2 := HNN.out
        have h3 : ((i + 1 : Nat) : Int) * 68229264 ≤ N * 68229264 := by omega
        omega
      have B2 := Lib.hid (B1.out.much (v1 := .slice ao1 K1 c1) (by rw [L1.out]; rfl) (mu' := mu2) (by have := HZ.out.1; omega) hbm)
      obtain ⟨R2, HR2⟩ : ∃ z, Hid (updR R1 (o, 0, 0) ⟨E0, sz0, some ⟨bb, 0, none⟩, 1, 1, .slice ao1 K1 c1 :: .int .i64 mu2 :: tl⟩ = z) := ⟨_, rfl⟩
      rw [HR2.out] at h6 B2
      have r20 : Hid (R2 (o, 0, 0) = ⟨E0, sz0, some ⟨bb, 0, none⟩, 1, 1, .slice ao1 K1 c1 :: .int .i64 mu2 :: tl⟩) := by show _ = _; rw [← HR2.out]; exact updR_eq
      have r2N : Hid (∀ t, t ≠ (o, 0, 0) → R2 t = R1 t) := fun t ht => by rw [← HR2.out]; exact updR_ne ht
      have HB6 : Hid (Below base w w6) := HB1.out.trans ((Below.refl _ _).drew.trans hB6)
      have H6 := Lib.hid h6
      have hpo : ∀ j, ((p, 1, j) : Nat × Nat × Nat) ≠ (o, 0, 0) := fun j e => by simp at e
      have HPO := Lib.hid hpo
      clear h6 hB6 CF CR hpo
      by_cases hf : 33554432 < mu2
      · have hdd : decide (33554432 < mu2) = true := by simpa using hf
        try rw [hdd]
        have HF : Hid (T1 base w R o bb sz0 p E0 tl K mu (i + 1) w6) := ⟨K1, mu2, R2, HK1.out, H6.out, B2.out, fun j hj => (r2N.out _ (HPO.out j)).trans (E1.out j (by omega)), fun t t0 t1 t3 tp => (r2N.out t t0).trans (N1.out t t0 t1 t3 tp), HB6.out, HZ.out.2.2, HZ.out.2.1, fun k h1 h2 => by rw [r2N.out _ (by simp)]; exact HFR.out k h1 h2⟩
        clear di
        go_wp2
        go_roundw
        case rel => exact ⟨i + 1, by omega, by go_num, HF⟩
        case measure => simp [RowKit.intOf]; omega
      · have hdd : decide (33554432 < mu2) = false := by simpa using hf
        try rw [hdd]
        have hmu2 : mu2 ≤ 33554432 := by omega
        have HMU := Lib.hid hmu2
        have s1 := B1.out.s0
        have hz1 := HZ.out.1
        have hk1 : K1 + 1 ≤ 83886 := by omega
        obtain ⟨m, HM⟩ : ∃ m, Hid (mkB K1 = m) := ⟨_, rfl⟩
        have hw1 : IntKind.i64.wrap (-1 - (K1 : Int)) = m := by rw [← HM.out]; exact IntWalk.i64_in _ (by omega)
        have d0 := H6.out.cell r20.out 0 _ rfl
        have r2p : Hid (R2 (p, 1, i) = ⟨3, 1, ea, en, ec, xs⟩) := (r2N.out _ (HPO.out i)).trans EE1.out
        have r2q : Hid (R2 q = ⟨25, 1, some ⟨g, 0, none⟩, N, lc, (List.range N).map fun i => (R (p, 1, i)).v⟩) := (r2N.out _ HQN.out.1).trans HQ1.out
        clear hmu2 s1 hz1 hf
        go_wp2_with fail
        go_loopw [7] (fun v7 wx => ∃ j : Nat, j ≤ en ∧ v7 = .int .i64 j ∧ Hid (Hold base wx (updR R2 (p, 1, i) ⟨3, 1, ea, en, ec, List.replicate j (.int .i64 m) ++ xs.drop j⟩)) ∧ Hid (Below base w wx)) (fun v7 _ => en - (RowKit.intOf v7).toNat)
        case atStart => exact ⟨0, Nat.zero_le _, rfl, by (show Hold _ _ _; simp only [List.replicate_zero, List.nil_append, List.drop_zero]; rw [updS_self r2p.out]; exact H6.out), HB6⟩
        case round =>
          obtain ⟨j, hj, rfl, HJ, HBJ⟩ := hrel
          clear d0 di
          have rj : (updR R2 (p, 1, i) ⟨3, 1, ea, en, ec, List.replicate j (.int .i64 m) ++ xs.drop j⟩) q = _ := (updR_ne (HQN.out.2.2.2 i)).trans r2q.out
          have di : wr.cell? ⟨g, i, none⟩ = some (.slice ea en ec) := HJ.out.cell rj i _ HQI.out
          have hxl := HEC.out.2.2.1
          rw [Nat.mul_one] at hxl
          by_cases hlj : j < en
          · have hlj' : (j : Int) < en := by omega
            obtain ⟨eg, rfl⟩ := HEC.out.2.2.2.2 (by have := HEC.out.1; omega)
            obtain ⟨x, hx⟩ : ∃ x, xs[j]? = some x := ⟨_, List.getElem?_eq_getElem (by omega)⟩
            have q1 := HJ.out.cell updR_eq j x (by rw [List.getElem?_append_right (by simp)]; simpa using hx)
            have q2 := HJ.out.frozen updR_eq j
            have HJ2 := HJ.out.put updR_eq j (.int .i64 m)
            rw [updS_two, rep_set (by omega)] at HJ2
            have HJ2 := Lib.hid HJ2
            have HBJ2 := Lib.hid (HBJ.out.trans (HJ.out.putB updR_eq j (.int .i64 m)))
            clear rj hxl hx
            go_wp2
            go_roundw
            case rel => first | exact ⟨j + 1, by omega, by go_num, HJ2, HBJ2⟩ | ((repeat apply Exists.intro); exact ⟨⟨j + 1, by omega, by go_num, HJ2, HBJ2⟩, rfl⟩)
            case measure => simp [RowKit.intOf]; omega
          · have hge : (en : Int) ≤ j := by omega
            obtain rfl : j = en := by omega
            rw [List.drop_of_length_le (by omega), List.append_nil] at HJ
            have hm3 := HJ.out.move (p, 1, i) (o, 3, K1) (by simp)
            rw [updR_eq, updS_two] at hm3
            obtain ⟨R3, HR3⟩ : ∃ z, Hid (updR (updR R2 (p, 1, i) Rw.nil) (o, 3, K1) ⟨3, 1, ea, j, ec, List.replicate j (.int .i64 m)⟩ = z) := ⟨_, rfl⟩
            rw [HR3.out] at hm3
            have H3 := Lib.hid hm3
            have r33 : Hid (R3 (o, 3, K1) = ⟨3, 1, ea, j, ec, List.replicate j (.int .i64 m)⟩) := by show _ = _; rw [← HR3.out]; exact updR_eq
            have r3N : Hid (∀ t, t ≠ (p, 1, i) → t ≠ (o, 3, K1) → R3 t = R2 t) := fun t h1 h2 => by rw [← HR3.out, updR_ne h2, updR_ne h1]
            have r30 : Hid (R3 (o, 0, 0) = ⟨E0, sz0, some ⟨bb, 0, none⟩, 1, 1, .slice ao1 K1 c1 :: .int .i64 mu2 :: tl⟩) := (r3N.out _ (fun e => HPO.out i e.symm) (by simp)).trans r20.out
            have r31 : Hid (R3 (o, 1, 0) = ⟨25, 1, ao1, K1, c1, (List.range K1).map fun k => (R1 (o, 3, k)).v⟩) := ((r3N.out _ (fun e => HP.out (congrArg Prod.fst e).symm) (by simp)).trans (r2N.out _ (by simp))).trans L1.out
            clear hxl rj hm3
            go_upto_region 10 with fail
            obtain ⟨i14, hi14, hza14, hzb14, hzc14⟩ := info_parts (P := Try.prog) (e := 25) (z := .slice none 0 0) (size := 1) (bytes := 24) (by kernel_rfl)
            have hmx : K1 + 1 ≤ maxLen := by unfold maxLen; omega
            have hbyt : (K1 + 1) * 24 ≤ 140737488355328 := by omega
            have HNa : Hid (Hold base (wr.alloc (.cells #[.slice ea j ec] 25)).drew R3) := (H3.out.via (abal _ _)).via (adrew1 _)
            have hnews : ∀ (q : Nat) (v : Value), [.slice ea j ec][q]? = some v → (wr.alloc (.cells #[.slice ea j ec] 25)).drew.cell? (Addr.add ⟨wr.heap.size, 0, none⟩ q) = some v := by
              intro q v hv
              cases q with
              | zero => simp at hv; subst hv; simp [go_sem]
              | succ q => simp at hv
            have HNW := Lib.hid hnews
            have k0 := H3.out.cell r30.out 0 _ rfl
            have k1 := H3.out.frozen r30.out 0
            have k3 : (wr.alloc (.cells #[.slice ea j ec] 25)).cell? ⟨bb, 0, none⟩ = some (.slice ao1 K1 c1) := (H3.out.via (abal _ _)).cell r30.out 0 _ rfl
            clear hnews
            go_region_law (refine Hold.step_append HNa.out rfl _ _ 29 (by rfl) (o, 1, 0) 25 i14 (.slice none 0 0) 1 24 Try.underlying29 hi14 hza14 hzb14 hzc14 rfl (by decide) r31.out (by rfl) ⟨wr.heap.size, 0, none⟩ 1 1 (by rfl) [.slice ea j ec] rfl HNW.out (by simp [Value.oneCell']) hmx hbyt ?_; intro b9 d9 w9 hH9 hB9; have q1 := hH9.cell ((updR_ne (by simp)).trans r30.out) 0 _ rfl; have q2 := hH9.frozen ((updR_ne (by simp)).trans r30.out) 0)
            all_goals
              have HX := hH9.put ((updR_ne (by simp)).trans r30.out) 0 (.slice b9 (K1 + 1) d9)
              simp only [List.set_cons_zero] at HX
              have HF : Hid (T1 base w R o bb sz0 p E0 tl K mu (i + 1) (w9.setCell ⟨bb, 0, none⟩ (.slice b9 (K1 + 1) d9))) := by
                have rN : ∀ t, t ≠ (o, 0, 0) → t ≠ (o, 1, 0) → updR (updR R3 (o, 1, 0) ⟨25, 1, b9, K1 + 1, d9, ((List.range K1).map fun k => (R1 (o, 3, k)).v) ++ [.slice ea j ec]⟩) (o, 0, 0) ⟨E0, sz0, some ⟨bb, 0, none⟩, 1, 1, .slice b9 (K1 + 1) d9 :: .int .i64 mu2 :: tl⟩ t = R3 t := fun t h0 h1 => by rw [updR_ne h0, updR_ne h1]
                refine ⟨K1 + 1, mu2, _, by have := HK1.out; omega, HX, ?_, fun jj hj => ?_, fun t t0 t1 t3 tp => ?_, ((HBJ.out.trans (((abal _ _).mono H3.out.base).drew)).trans hB9).trans (hH9.putB ((updR_ne (by simp)).trans r30.out) 0 _), HZ.out.2.2, HZ.out.2.1, fun k h1 h2 => ?_⟩
                · refine B1.out.more HZ.out.1 HMU.out (b1 := b9) (d1 := d9) (sa := ea) (sn := j) (sc := ec) updR_eq (by rw [updR_ne (by simp), updR_eq]) ?_ (by omega) (fun k hk => ?_)
                  · rw [rN _ (by simp) (by simp), r33.out, HM.out]
                  · rw [rN _ (by simp) (by simp), r3N.out _ (by simp) (by simp; omega)]
                    exact r2N.out _ (by simp)
                · rw [rN _ (HPO.out jj) (by simp; intro e; exact absurd e HP.out), r3N.out _ (by simp; omega) (by simp), r2N.out _ (HPO.out jj)]
                  exact E1.out jj (by omega)
                · rw [rN _ t0 t1, r3N.out _ (tp i) (t3 K1), r2N.out _ t0]
                  exact N1.out t t0 t1 t3 tp
                · rw [rN _ (by simp) (by simp)]
                  by_cases e : k = K1
                  · subst e; rw [r33.out]; exact hen
                  · rw [r3N.out _ (by simp) (by simpa using e), r2N.out _ (by simp)]; exact HFR.out k h1 (by omega)
              clear hH9 hB9 HX k0 k1 k3 q1 q2
              go_wp2
              go_roundw
              case rel => first | exact ⟨i + 1, by omega, by go_num, HF⟩ | ((repeat apply Exists.intro); exact ⟨⟨i + 1, by omega, by go_num, HF⟩, rfl⟩)
              case measure => simp [RowKit.intOf]; omega
    · have hge : (N : Int) ≤ i := by omega
      obtain rfl : i = N := by omega
      obtain ⟨K1, mu1, R1, hK1, h1, b1, hE1, hN1, hB1, hm1, hm2, hfr⟩ := HT.out
      have HFR := Lib.hid hfr
      obtain ⟨W1, hW1⟩ : ∃ z : World, z = wr := ⟨_, rfl⟩
      subst hW1
      have kb1 := b1.kb
      have HT3 : Hid (∃ R2 : Nat × Nat × Nat → Rw, Hold base W1 R2 ∧ Bk2 R2 (o, 0, 0) o E0 sz0 bb tl K1 mu1 ∧ (∀ t, t ≠ (o, 1, 0) → (∀ k, t ≠ (o, 3, k)) → R2 t = R1 t) ∧ Below base w W1 ∧ (∀ j, K ≤ j → R2 (o, 3, j) = R1 (o, 3, j))) := ⟨R1, h1, b1, fun _ _ _ => rfl, hB1, fun _ _ => rfl⟩
      have E1 := Lib.hid hE1
      have N1 := Lib.hid hN1
      have HK1 := Lib.hid hK1
      have HM12 := Lib.hid (And.intro hm1 hm2)
      have hK1' : (K : Int) ≤ K1 := by omega
      have HPN := Lib.hid (fun j => (show ((p, 1, j) : Nat × Nat × Nat) ≠ (o, 1, 0) from fun e => HP.out (congrArg Prod.fst e)))
      clear hfr h1 b1 hE1 hN1 hB1 hm1 hm2 HT
      go_wp2_with fail
      go_loopw [8, 9, 10] (fun v8 v9 v10 wx => ∃ k : Nat, K ≤ k ∧ k ≤ K1 ∧ v8 = .int .i64 k ∧ Hid (∃ R2 : Nat × Nat × Nat → Rw, Hold base wx R2 ∧ Bk2 R2 (o, 0, 0) o E0 sz0 bb tl K1 mu1 ∧ (∀ t, t ≠ (o, 1, 0) → (∀ k, t ≠ (o, 3, k)) → R2 t = R1 t) ∧ Below base w wx ∧ (∀ j, k ≤ j → R2 (o, 3, j) = R1 (o, 3, j)))) (fun v8 _ _ _ => K1 - (RowKit.intOf v8).toNat)
      case atStart => exact ⟨K, Nat.le_refl _, HK1.out, rfl, HT3⟩
      case round =>
        clear HT3
        obtain ⟨k, hkK, hk, rfl, HT⟩ := hrel
        obtain ⟨R2, h2, b2, hN2, hB2, hF2⟩ := HT.out
        obtain ⟨ao1, c1, l1⟩ := b2.l1
        have hob := b2.obj
        rw [l1] at hob
        simp only [Rw.v] at hob
        have d0 : wr.cell? ⟨bb, 0, none⟩ = some (.slice ao1 K1 c1) := h2.cell hob 0 _ rfl
        by_cases hlk : k < K1
        · have hlk' : (k : Int) < K1 := by omega
          obtain ⟨g1, rfl⟩ := (h2.cap l1).2.2.2.2 (by have := (h2.cap l1).1; omega)
          obtain ⟨ea, en, ec, hen, ee⟩ := b2.e1 k hlk
          have hqi : ((List.range K1).map fun k => (R2 (o, 3, k)).v)[k]? = some (.slice ea en ec) := by rw [List.getElem?_map, List.getElem?_range hlk]; simp only [Option.map_some, ee, Rw.v]
          have r1 := h2.cell l1 k _ hqi
          have hec := h2.cap ee
          obtain ⟨V, hV⟩ : ∃ V : Nat, min ec (en + 70000) = V := ⟨_, rfl⟩
          have hen4 : en ≤ 4194304 := by
            have h := HFR.out k hkK hlk
            rw [← hF2 k (Nat.le_refl _), ee] at h
            exact h
          have hV1 : V ≤ 4264304 := by omega
          have hV2 : en ≤ V := by omega
          have hV3 : V ≤ ec := by omega
          have CR := Lib.hid (fun wy => room2_any en ec (by omega) wy)
          rw [hV] at CR
          obtain ⟨m, HM⟩ : ∃ m, Hid (mkB k = m) := ⟨_, rfl⟩
          have hw1 : IntKind.i64.wrap (-1 - (k : Int)) = m := by rw [← HM.out]; exact IntWalk.i64_in _ (by omega)
          rw [HM.out] at ee
          have H2 := Lib.hid h2
          have B2 := Lib.hid b2
          have N2 := Lib.hid hN2
          have HB2 := Lib.hid hB2
          have F2 := Lib.hid hF2
          have L1 := Lib.hid l1
          have HOB := Lib.hid hob
          have EE := Lib.hid ee
          have HQI := Lib.hid hqi
          clear h2 b2 hN2 hB2 hF2 l1 hob ee hqi hec hV HT
          go_wp2_with fail
          refine (CR.out _).mono ?_; rintro e w5 ⟨rfl, hw5⟩
          have hw5' := hw5.symm
          subst hw5'
          clear d0 r1
          go_wp2_with fail
          go_loopw [9] (fun v wx => ∃ i : Nat, v = .slice ea i ec ∧ en ≤ i ∧ i ≤ V ∧ Hid (Hold base wx (updR R2 (o, 3, k) ⟨3, 1, ea, i, ec, List.replicate i (.int .i64 m)⟩)) ∧ Hid (Below base w wx)) (fun v _ => V - lenX v)
          case atStart => exact ⟨en, rfl, Nat.le_refl _, hV2, by (show Hold _ _ _; rw [updS_self EE.out]; exact H2.out), HB2⟩
          case round =>
            obtain ⟨ii, rfl, hi1, hi2, HI, HBI⟩ := hrel
            by_cases hli : ii < V
            · have hli' : (ii : Int) < V := by omega
              obtain ⟨gg, hg⟩ := (HI.out.cap updR_eq).2.2.2.2 (by omega)
              subst hg
              obtain ⟨i0, hi0, hz0, hz1, hz2⟩ := info_parts (P := Try.prog) (e := 3) (z := .int .i64 0) (size := 1) (bytes := 8) (by kernel_rfl)
              have HNa : Hid (Hold base (wr.alloc (.cells #[.int .i64 m] 3)) (updR R2 (o, 3, k) ⟨3, 1, some ⟨gg, 0, none⟩, ii, ec, List.replicate ii (.int .i64 m)⟩)) := HI.out.via (abal _ _)
              have hnew : (wr.alloc (.cells #[.int .i64 m] 3)).cell? ⟨wr.heap.size, 0, none⟩ = some (.int .i64 m) := by simp [go_sem]
              have HNW := Lib.hid hnew
              have hroom : ii + 1 ≤ ec := by omega
              have HBB : Hid (Below base w (wr.alloc (.cells #[.int .i64 m] 3))) := HBI.out.trans ((abal _ _).mono HI.out.base)
              clear hnew
              go_wp2_with (at_builtin; refine Hold.wpList_room HNa.out rfl _ _ 25 rfl (o, 3, k) 3 i0 Try.underlying25 hi0 hz1 updR_eq hroom rfl ⟨wr.heap.size, 0, none⟩ 1 rfl (.int .i64 m) HNW.out rfl rfl ?_)
              intro w9 hH9 hB9
              rw [updS_two, ← List.replicate_succ'] at hH9
              have HH9 := Lib.hid hH9
              have HB9 := Lib.hid (HBB.out.trans hB9)
              clear hH9 hB9
              go_wp2
              go_roundw
              case rel => first | exact ⟨ii + 1, rfl, by omega, by omega, HH9, HB9⟩ | ((repeat apply Exists.intro); exact ⟨⟨ii + 1, rfl, by omega, by omega, HH9, HB9⟩, rfl⟩)
              case measure => simp [lenX]; omega
            · have hge : (V : Int) ≤ ii := by omega
              obtain rfl : V = ii := by omega
              have rg1 := (updR_ne (R := R2) (r := ⟨3, 1, ea, V, ec, List.replicate V (.int .i64 m)⟩) (show (o, 1, 0) ≠ (o, 3, k) by simp)).trans L1.out
              have rg0 := (updR_ne (R := R2) (r := ⟨3, 1, ea, V, ec, List.replicate V (.int .i64 m)⟩) (show (o, 0, 0) ≠ (o, 3, k) by simp)).trans HOB.out
              have q0 := HI.out.cell rg0 0 _ rfl
              have q1 := HI.out.cell rg1 k _ HQI.out
              have q2 := HI.out.frozen rg1 k
              have hPp := HI.out.put rg1 k (.slice ea V ec)
              have HF : Hid (∃ R2 : Nat × Nat × Nat → Rw, Hold base (wr.setCell ⟨g1, k, none⟩ (.slice ea V ec)) R2 ∧ Bk2 R2 (o, 0, 0) o E0 sz0 bb tl K1 mu1 ∧ (∀ t, t ≠ (o, 1, 0) → (∀ k, t ≠ (o, 3, k)) → R2 t = R1 t) ∧ Below base w (wr.setCell ⟨g1, k, none⟩ (.slice ea V ec)) ∧ (∀ j, k + 1 ≤ j → R2 (o, 3, j) = R1 (o, 3, j))) := by
                refine ⟨_, hPp, ?_, fun t h1 h3 => ?_, HBI.out.trans (HI.out.putB rg1 k _), fun j hj => ?_⟩
                · refine B2.out.grown hlk L1.out (bo1 := ea) (n1 := V) (c1 := ec) ?_ updR_eq ?_ (by omega) (fun j hj => ?_)
                  · rw [updR_ne (by simp), updR_ne (by simp)]
                  · rw [updR_ne (by simp), updR_eq, HM.out]
                  · rw [updR_ne (by simp), updR_ne (by simpa using hj)]
                · rw [updR_ne h1, updR_ne (h3 k)]; exact N2.out t h1 h3
                · rw [updR_ne (by simp), updR_ne (by simp; omega)]; exact F2.out j (by omega)
              clear hPp rg1 rg0
              go_wp2
              go_roundw
              case rel => first | exact ⟨k + 1, by omega, by omega, by go_num, HF⟩ | ((repeat apply Exists.intro); exact ⟨⟨k + 1, by omega, by omega, by go_num, HF⟩, rfl⟩)
              case measure => simp [RowKit.intOf]; omega
        · have hgk : (K1 : Int) ≤ k := by omega
          have HF : Hid (TakeP2 base w R o bb sz0 p E0 tl K mu i wr) := ⟨K1, mu1, R2, HK1.out, h2, b2, fun t t0 t1 t3 tp => (hN2 t t1 t3).trans (N1.out t t0 t1 t3 tp), hB2, HM12.out.1, HM12.out.2⟩
          clear h2 b2 hN2 hB2 hF2 l1 hob
          go_wp2
          go_end0
          exact ⟨rfl, HF.out⟩
end
end Go.Proofs.Ytdedbfbkakofgaa

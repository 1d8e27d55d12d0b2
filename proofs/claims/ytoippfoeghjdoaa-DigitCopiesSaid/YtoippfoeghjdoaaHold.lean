/- Rows that a program holds, each in a block of its own, by names: made, read, written, appended to, moved. -/
import Derived.Test.YtoippfoeghjdoaaRnd
namespace Go.Proofs.Ytoippfoeghjdoaa
open Go.RowKit Go.Lib
set_option linter.unusedVariables false
set_option linter.unusedSimpArgs false
/-- A row: a slice value over a block of its own, and its cells. -/
structure Rw where
  E : TypeId
  sz : Nat
  ao : Option Addr
  n : Nat
  c : Nat
  xs : List Value
def Rw.v (r : Rw) : Value := .slice r.ao r.n r.c
def Rw.own (r : Rw) (w : World) (base : Nat) : Prop := w.ownsRow base r.E r.sz r.v r.n r.xs
def Rw.nil : Rw := ⟨0, 1, none, 0, 0, []⟩
/-- Rows by names: each is the call's own, no two lie in one block. -/
structure Hold (base : Nat) (w : World) (R : Nat × Nat × Nat → Rw) : Prop where
  own : ∀ t, (R t).own w base
  dis : ∀ t s, t ≠ s → ∀ g, (R t).v.ownBlock = some g → (R s).v.ownBlock ≠ some g
  base : base ≤ w.heap.size
def updR (R : Nat × Nat × Nat → Rw) (t : Nat × Nat × Nat) (r : Rw) : Nat × Nat × Nat → Rw := fun s => if s = t then r else R s
section
variable {base : Nat} {w w' : World} {R : Nat × Nat × Nat → Rw} {t s : Nat × Nat × Nat} {r : Rw}
theorem updR_eq : updR R t r t = r := if_pos rfl
theorem updR_ne (h : s ≠ t) : updR R t r s = R s := if_neg h
theorem Rw.own_nil (w : World) (base : Nat) : Rw.nil.own w base := World.ownsRow_nil _ _ _ _
theorem Rw.nil_block (g : Nat) : Rw.nil.v.ownBlock ≠ some g := fun h => by cases h
theorem grown_of (h : Below w.heap.size w w') (row : Option Nat) : w.grownBy w' row := ⟨h.os, h.tape, h.output, h.size, fun k hk _ => h.block k hk⟩
theorem Rw.own.via (h : r.own w base) (hb : Below w.heap.size w w') : r.own w' base := World.ownsRow.kept h (grown_of hb none) (by cases hv : r.v.ownBlock <;> simp)
theorem Rw.own.lt (h : r.own w base) {g : Nat} (hg : r.v.ownBlock = some g) : base ≤ g ∧ g < w.heap.size := World.ownsRow.lt h g hg
theorem Hold.via (h : Hold base w R) (hb : Below w.heap.size w w') : Hold base w' R := ⟨fun t => (h.own t).via hb, h.dis, Nat.le_trans h.base hb.size⟩
theorem Hold.add (h : Hold base w R) (t : Nat × Nat × Nat) (hr : r.own w base) (hd : ∀ s, s ≠ t → ∀ g, r.v.ownBlock = some g → (R s).v.ownBlock ≠ some g) : Hold base w (updR R t r) := by
  refine ⟨fun s => ?_, fun s s' hs g hg hg' => ?_, h.base⟩
  · by_cases e : s = t
    · subst e; rw [updR_eq]; exact hr
    · rw [updR_ne e]; exact h.own s
  · by_cases e : s = t
    · subst e
      rw [updR_eq] at hg
      rw [updR_ne (fun e => hs e.symm)] at hg'
      exact hd s' (fun e => hs e.symm) g hg hg'
    · rw [updR_ne e] at hg
      by_cases e' : s' = t
      · subst e'
        rw [updR_eq] at hg'
        exact hd s e g hg' hg
      · rw [updR_ne e'] at hg'
        exact h.dis s s' hs g hg hg'
theorem Hold.drop (h : Hold base w R) (t : Nat × Nat × Nat) : Hold base w (updR R t Rw.nil) := h.add t (Rw.own_nil _ _) fun s _ g hg => absurd hg (Rw.nil_block g)
/-- A row is written, or laid anew. -/
theorem Hold.grow (h : Hold base w R) (t : Nat × Nat × Nat) (hr : r.own w' base) (hgr : w.grownBy w' (R t).v.ownBlock) (hl : ∀ g, r.v.ownBlock = some g → (R t).v.ownBlock = some g ∨ w.heap.size ≤ g) : Hold base w' (updR R t r) := by
  have key : ∀ s, s ≠ t → ∀ g, r.v.ownBlock = some g → (R s).v.ownBlock ≠ some g := fun s hs g hg hs' => by
    rcases hl g hg with h1 | h1
    · exact h.dis s t hs g hs' h1
    · have := ((h.own s).lt hs').2; omega
  refine ⟨fun s => ?_, fun s s' hs g hg hg' => ?_, Nat.le_trans h.base hgr.size⟩
  · by_cases e : s = t
    · subst e; rw [updR_eq]; exact hr
    · rw [updR_ne e]
      refine World.ownsRow.kept (h.own s) hgr ?_
      cases hv : (R s).v.ownBlock with
      | none => exact .inl rfl
      | some g => exact .inr fun e' => h.dis s t e g hv e'.symm
  · by_cases e : s = t
    · subst e
      rw [updR_eq] at hg
      rw [updR_ne (fun e => hs e.symm)] at hg'
      exact key s' (fun e => hs e.symm) g hg hg'
    · rw [updR_ne e] at hg
      by_cases e' : s' = t
      · subst e'
        rw [updR_eq] at hg'
        exact key s e g hg' hg
      · rw [updR_ne e'] at hg'
        exact h.dis s s' hs g hg hg'
theorem Hold.new (h : Hold base w R) (t : Nat × Nat × Nat) (hr : r.own w' base) (hb : Below w.heap.size w w') (hl : ∀ g, r.v.ownBlock = some g → w.heap.size ≤ g) : Hold base w' (updR R t r) :=
  (h.via hb).add t hr fun s _ g hg hs => by have := ((h.own s).lt hs).2; have := hl g hg; omega
theorem Hold.alloc (h : Hold base w R) (t : Nat × Nat × Nat) {cs : Array Value} {E : TypeId} {sz n : Nat} (hs : cs.size = n * sz) (hn : n ≤ maxLen) : Hold base (w.alloc (.cells cs E)) (updR R t ⟨E, sz, some ⟨w.heap.size, 0, none⟩, n, n, cs.toList⟩) :=
  h.new t (World.ownsRow_lit w cs n h.base hn hs) (abal _ _) fun g hg => by simp [Rw.v, Value.ownBlock] at hg; omega
/-- The two rows of an array that a call made. -/
def rowS (A : Ar) : Rw := ⟨3, 1, A.sa, A.sn, A.sc, A.s.map (Value.int .i64)⟩
def rowA (A : Ar) : Rw := ⟨2, 1, A.aa, A.an, A.ac, A.a.map (Value.int .i64)⟩
theorem Hold.made (h : Hold base w R) {B : Ar} (hO : B.Own w' w.heap.size) (hb : Below w.heap.size w w') (t1 t2 : Nat × Nat × Nat) (h12 : t1 ≠ t2) : Hold base w' (updR (updR R t1 (rowS B)) t2 (rowA B)) := by
  refine (h.new t1 (r := rowS B) (own_mono hO.shp h.base) hb (fun g hg => (own_block hO.shp hg).1)).add t2 (own_mono hO.ats h.base) (fun s hs g hg hs' => ?_)
  have hg1 := (own_block hO.ats hg).1
  by_cases e : s = t1
  · subst e
    rw [updR_eq] at hs'
    exact hO.two g hs' hg
  · rw [updR_ne e] at hs'
    have := ((h.own s).lt hs').2
    omega
theorem Hold.move (h : Hold base w R) (t s : Nat × Nat × Nat) (hts : s ≠ t) : Hold base w (updR (updR R t Rw.nil) s (R t)) :=
  (h.drop t).add s (h.own t) fun s' hs g hg hs' => by
    by_cases e : s' = t
    · subst e; rw [updR_eq] at hs'; exact Rw.nil_block g hs'
    · rw [updR_ne e] at hs'; exact h.dis t s' (fun e' => e e'.symm) g hg hs'
section
variable {E : TypeId} {sz g n c : Nat} {xs : List Value}
theorem Hold.cell (h : Hold base w R) (e : R t = ⟨E, sz, some ⟨g, 0, none⟩, n, c, xs⟩) (j : Nat) (v : Value) (hj : xs[j]? = some v) : w.cell? ⟨g, j, none⟩ = some v := by
  have ho := h.own t
  rw [e] at ho
  have hlt : j < n * sz := by
    have h1 := ho.1
    simp only at h1
    rw [← h1]
    exact (List.getElem?_eq_some_iff.1 hj).1
  exact (World.ownsRow.cellAt ho j hlt).trans hj
theorem Hold.frozen (h : Hold base w R) (e : R t = ⟨E, sz, some ⟨g, 0, none⟩, n, c, xs⟩) (j : Nat) : w.frozen? ⟨g, j, none⟩ = false := by
  have ho := h.own t
  rw [e] at ho
  exact World.ownsRow.frozenAt ho j
theorem Hold.lt (h : Hold base w R) (e : R t = ⟨E, sz, some ⟨g, 0, none⟩, n, c, xs⟩) : base ≤ g ∧ g < w.heap.size := by
  have ho := h.own t
  rw [e] at ho
  exact ho.lt rfl
theorem Hold.put (h : Hold base w R) (e : R t = ⟨E, sz, some ⟨g, 0, none⟩, n, c, xs⟩) (j : Nat) (u : Value) : Hold base (w.setCell ⟨g, j, none⟩ u) (updR R t ⟨E, sz, some ⟨g, 0, none⟩, n, c, xs.set j u⟩) := by
  have ho := h.own t
  rw [e] at ho
  obtain ⟨h1, h2⟩ := World.ownsRow.stored ho j u
  refine h.grow t h1 (by rw [e]; exact h2) fun k hk => ?_
  rw [e]
  exact .inl hk
theorem Hold.putB (h : Hold base w R) (e : R t = ⟨E, sz, some ⟨g, 0, none⟩, n, c, xs⟩) (j : Nat) (u : Value) : Below base w (w.setCell ⟨g, j, none⟩ u) := by
  have ho := h.own t
  rw [e] at ho
  exact (Below.refl _ _).grown (World.ownsRow.stored ho j u).2 h.base (fun k hk => by cases hk; exact (h.lt e).1)
theorem Hold.cap (h : Hold base w R) {ao : Option Addr} (e : R t = ⟨E, sz, ao, n, c, xs⟩) : n ≤ c ∧ c ≤ maxLen ∧ xs.length = n * sz ∧ (ao = none → c = 0) ∧ (0 < c → ∃ g, ao = some ⟨g, 0, none⟩) := by
  have ho := h.own t
  rw [e] at ho
  rcases ho with ⟨h1, h2 | ⟨g, cap, cur, hv, hg, hh, hc, hm, hs, ht⟩⟩
  · simp only [Rw.v] at h2
    obtain ⟨h2, h3⟩ := h2
    cases h2
    exact ⟨Nat.le_refl _, Nat.zero_le _, h1, fun _ => rfl, fun h => absurd h (by simp)⟩
  · simp only [Rw.v] at hv hc hm
    cases hv
    exact ⟨hc, hm, h1, fun h => (by cases h), fun _ => ⟨g, rfl⟩⟩
theorem Hold.ls (h : Hold base w R) {ao : Option Addr} {zs : List Int} (e : R t = ⟨E, 1, ao, n, c, zs.map (Value.int .i64)⟩) (hb : n * 8 ≤ 140737488351232) (hr : ∀ i, -9223372036854775808 ≤ zs.getD i 0 ∧ zs.getD i 0 ≤ 9223372036854775807) : Ls w ao n c zs := by
  have ho := h.own t
  rw [e] at ho
  exact ls_of_own ho hb hr
end
theorem own_form' {E : TypeId} {sz : Nat} {v : Value} {n : Nat} {xs : List Value} (h : w.ownsRow base E sz v n xs) : ∃ ao c, v = .slice ao n c ∧ (∀ g, v.ownBlock = some g → ao = some ⟨g, 0, none⟩) := by
  rcases h.2 with ⟨rfl, rfl⟩ | ⟨g, cap, cur, rfl, _⟩
  · exact ⟨_, _, rfl, fun g hg => by simp [Value.ownBlock] at hg⟩
  · exact ⟨_, _, rfl, fun g' hg => by simp [Value.ownBlock] at hg; rw [hg]⟩
section
variable {P : Program}
theorem Hold.run_append (h : Hold base w R) (tg : Nat × Nat × Nat) (t ty e : TypeId) (i : TypeInfo) (z : Value) (size bytes : Nat) (ht : P.underlying t = some (.slice e)) (hi : P.info? e = some i) (hz : i.zero = some z)
    (hsize : i.size = size) (hby : i.bytes = bytes) (hzs : z.cells.size = size) (hsz : 0 < size)
    {ao : Option Addr} {n c : Nat} {xs : List Value} (hr : R tg = ⟨e, size, ao, n, c, xs⟩)
    (a : Addr) (m c' : Nat) (news : List Value) (hl : news.length = m * size) (hnews : ∀ j u, news[j]? = some u → w.cell? (a.add j) = some u) (h1 : ∀ u ∈ news, u.oneCell' = true)
    (h63 : n + m ≤ maxLen) (hbytes : (n + m) * bytes ≤ 140737488355328) :
    ∃ bo d w', (Builtin.append_ #[t, t] ty #[.slice ao n c, .slice (some a) m c']).run P w = .ok (.slice bo (n + m) d) w' ∧ Hold base w' (updR R tg ⟨e, size, bo, n + m, d, xs ++ news⟩) ∧ Below base w w' := by
  have ho := h.own tg
  rw [hr] at ho
  obtain ⟨v', w', g1, g2, g3, g4, g5⟩ := Go.run_append_own_at (P := P) w base t ty e i z size bytes ht hi hz hsize hby hzs hsz _ n xs ho a m c' news hl hnews h1 h63 hbytes h.base
  obtain ⟨bo, d, rfl, hf⟩ := own_form' g2
  refine ⟨bo, d, w', g1, h.grow tg g2 (by rw [hr]; exact g3) (fun g hg => ?_), (Below.refl _ _).grown g3 h.base fun k hk => (Rw.own.lt ho hk).1⟩
  have hg' : (Value.slice bo (n + m) d).ownBlock = some g := hg
  rcases g5 with g5 | g5
  · left; rw [hr]; show (Value.slice ao n c).ownBlock = some g; rw [← hg']; exact g5.symm
  · right; rw [hg'] at g5; cases g5; exact Nat.le_refl _
theorem Hold.wp_append (h : Hold base w R) {o : Oper} {a : Act} {K : Act → World → Prop} {Q : Exit → Act → World → Prop} (s x : Operand) (t : TypeId)
    (ho : o.op = .call { callee := .builtin .append, args := #[s, x], argTypes := #[t, t] })
    (tg : Nat × Nat × Nat) (e : TypeId) (i : TypeInfo) (z : Value) (size bytes : Nat) (ht : P.underlying t = some (.slice e)) (hi : P.info? e = some i) (hz : i.zero = some z)
    (hsize : i.size = size) (hby : i.bytes = bytes) (hzs : z.cells.size = size) (hsz : 0 < size)
    {ao : Option Addr} {n c : Nat} {xs : List Value} (hr : R tg = ⟨e, size, ao, n, c, xs⟩) (hs : a.eval s = .slice ao n c)
    (ad : Addr) (m c' : Nat) (hx : a.eval x = .slice (some ad) m c') (news : List Value) (hl : news.length = m * size) (hnews : ∀ j u, news[j]? = some u → w.cell? (ad.add j) = some u) (h1 : ∀ u ∈ news, u.oneCell' = true)
    (h63 : n + m ≤ maxLen) (hbytes : (n + m) * bytes ≤ 140737488355328)
    (hk : ∀ bo d w', Hold base w' (updR R tg ⟨e, size, bo, n + m, d, xs ++ news⟩) → Below base w w' → K (a.put o.dst (.slice bo (n + m) d)) w') : o.wp P a w K Q := by
  obtain ⟨bo, d, w', hrun, h2, h3⟩ := h.run_append (P := P) tg t o.type e i z size bytes ht hi hz hsize hby hzs hsz hr ad m c' news hl hnews h1 h63 hbytes
  unfold Oper.wp execOp
  simp only [ho, resolve, invoke, builtin, Sem.run_bind, Sem.run_pure, Result.andThen_ok, List.map_toArray, List.map_cons, List.map_nil, hs, hx, hrun]
  exact hk bo d w' h2 h3
theorem Hold.step_append (h : Hold base w R) {ops : Array Oper} {o : Oper} {a : Act} {K : Act → World → Prop} {Q : Exit → Act → World → Prop} {Z : Prop} (hgd : o.guard = none) (s x : Operand) (t : TypeId)
    (ho : o.op = .call { callee := .builtin .append, args := #[s, x], argTypes := #[t, t] })
    (tg : Nat × Nat × Nat) (e : TypeId) (i : TypeInfo) (z : Value) (size bytes : Nat) (ht : P.underlying t = some (.slice e)) (hi : P.info? e = some i) (hz : i.zero = some z)
    (hsize : i.size = size) (hby : i.bytes = bytes) (hzs : z.cells.size = size) (hsz : 0 < size)
    {ao : Option Addr} {n c : Nat} {xs : List Value} (hr : R tg = ⟨e, size, ao, n, c, xs⟩) (hs : a.eval s = .slice ao n c)
    (ad : Addr) (m c' : Nat) (hx : a.eval x = .slice (some ad) m c') (news : List Value) (hl : news.length = m * size) (hnews : ∀ j u, news[j]? = some u → w.cell? (ad.add j) = some u) (h1 : ∀ u ∈ news, u.oneCell' = true)
    (h63 : n + m ≤ maxLen) (hbytes : (n + m) * bytes ≤ 140737488355328)
    (hk : ∀ bo d w', Hold base w' (updR R tg ⟨e, size, bo, n + m, d, xs ++ news⟩) → Below base w w' → K (a.put o.dst (.slice bo (n + m) d)) w') :
    if Region.wanted o (yielded ops a.tmps) = true then Oper.wp P o a w K Q else Z := by
  have hw : Region.wanted o (yielded ops a.tmps) = true := by simp [Region.wanted, hgd]
  rw [if_pos hw]
  exact h.wp_append s x t ho tg e i z size bytes ht hi hz hsize hby hzs hsz hr hs ad m c' hx news hl hnews h1 h63 hbytes hk
/-- One more cell where there is room: in place. -/
theorem Hold.run_room (h : Hold base w R) (tg : Nat × Nat × Nat) (t ty e : TypeId) (i : TypeInfo) (ht : P.underlying t = some (.slice e)) (hi : P.info? e = some i) (hsize : i.size = 1)
    {g n c : Nat} {xs : List Value} (hr : R tg = ⟨e, 1, some ⟨g, 0, none⟩, n, c, xs⟩) (hroom : n + 1 ≤ c)
    (a : Addr) (c' : Nat) (u : Value) (hnew : w.cell? a = some u) (ha : a.add 0 = a) (h1 : u.oneCell' = true) :
    ∃ w', (Builtin.append_ #[t, t] ty #[.slice (some ⟨g, 0, none⟩) n c, .slice (some a) 1 c']).run P w = .ok (.slice (some ⟨g, 0, none⟩) (n + 1) c) w' ∧ Hold base w' (updR R tg ⟨e, 1, some ⟨g, 0, none⟩, n + 1, c, xs ++ [u]⟩) ∧ Below base w w' := by
  have ho := h.own tg
  rw [hr] at ho
  have hlt := h.lt hr
  obtain ⟨hl, h2 | ⟨g', cap, cur, hv, hg, hh, hc, hm, hs, htk⟩⟩ := ho
  · simp [Rw.v] at h2
  · simp only [Rw.v] at hv hl hc htk
    cases hv
    rw [Nat.mul_one] at hs htk hl
    have hnews : ∀ j v, [u][j]? = some v → w.cell? (a.add j) = some v := fun j v hj => by
      cases j with
      | zero => simp at hj; subst hj; rw [ha]; exact hnew
      | succ j => simp at hj
    have hrun := run_append_room (P := P) w t ty e i ht hi g n c cur hh a 1 c' [u] (by rw [hsize]; rfl) hnews (by simpa using h1) hroom (by rw [hsize]; simp; omega)
    rw [hsize, Nat.mul_one] at hrun
    refine ⟨_, hrun, ?_, ?_⟩
    · refine h.grow tg ⟨by simp [hl], .inr ⟨g, c, _, rfl, hg, setRow_heap w g cur _ e _ hh, hroom, hm, ?_, ?_⟩⟩ ⟨rfl, rfl, rfl, by simp, fun k _ hk => setRow_other w g k _ (fun e' => hk (by rw [hr]; simp [Rw.v, Value.ownBlock, e']))⟩ (fun k hk => by rw [hr]; exact .inl hk)
      · simp only [List.size_toArray, List.length_append, List.length_take, List.length_drop, Array.length_toList, List.length_singleton]
        omega
      · simp only [Nat.mul_one]
        rw [htk, show n + 1 = (xs ++ [u]).length by simp [hl]]
        exact List.take_left
    · exact (Below.refl _ _).grown (row := some g) ⟨rfl, rfl, rfl, by simp, fun k _ hk => setRow_other w g k _ (fun e' => hk (by simp [e']))⟩ h.base (fun k hk => by cases hk; exact hlt.1)
theorem Hold.wpList_room (h : Hold base w R) {ops : Array Oper} {rest : List Oper} {o : Oper} {a : Act} {Q : Exit → Act → World → Prop} (hgd : o.guard = none) (s x : Operand) (t : TypeId)
    (ho : o.op = .call { callee := .builtin .append, args := #[s, x], argTypes := #[t, t] })
    (tg : Nat × Nat × Nat) (e : TypeId) (i : TypeInfo) (ht : P.underlying t = some (.slice e)) (hi : P.info? e = some i) (hsize : i.size = 1)
    {g n c : Nat} {xs : List Value} (hr : R tg = ⟨e, 1, some ⟨g, 0, none⟩, n, c, xs⟩) (hroom : n + 1 ≤ c) (hs : a.eval s = .slice (some ⟨g, 0, none⟩) n c)
    (ad : Addr) (c' : Nat) (hx : a.eval x = .slice (some ad) 1 c') (u : Value) (hnew : w.cell? ad = some u) (ha : ad.add 0 = ad) (h1 : u.oneCell' = true)
    (hk : ∀ w', Hold base w' (updR R tg ⟨e, 1, some ⟨g, 0, none⟩, n + 1, c, xs ++ [u]⟩) → Below base w w' → wpList P ops Q rest (a.put o.dst (.slice (some ⟨g, 0, none⟩) (n + 1) c)) w') : wpList P ops Q (o :: rest) a w :=
  wpList_plain hgd fun _ hK => by
    obtain ⟨w', hrun, h2, h3⟩ := h.run_room (P := P) tg t o.type e i ht hi hsize hr hroom ad c' u hnew ha h1
    unfold Oper.wp execOp
    simp only [ho, resolve, invoke, builtin, Sem.run_bind, Sem.run_pure, Result.andThen_ok, List.map_toArray, List.map_cons, List.map_nil, hs, hx, hrun]
    exact hK _ _ (hk w' h2 h3)
end
end
end Go.Proofs.Ytoippfoeghjdoaa

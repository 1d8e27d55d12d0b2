/- ShapeFresh: what a call is handed, copied (abacuslaw2.lists, its first part). -/
import Derived.Test.YtdedbfbkakofgaaShapeFreshM12
import Derived.Test.YtdedbfbkakofgaaShapeFreshM16
import Derived.Test.YtdedbfbkakofgaaShapeFreshM18
import Derived.Test.YtdedbfbkakofgaaShapeFreshM20
namespace Go.Proofs.Ytdedbfbkakofgaa
open Go.RowKit Go.Lib
set_option linter.unusedVariables false
set_option linter.unusedSimpArgs false
attribute [local go_sem] alloc_drewN setCell_drewN
attribute [local go_sem] Oper.semAt_some
section
variable {base : Nat} {w : World} {R : Nat × Nat × Nat → Rw}
/-- append of a list that is read to a row that is held, as a step. -/
theorem Hold.step_ls {P : Program} (h : Hold base w R) {ops : Array Oper} {o : Oper} {a : Act} {K : Act → World → Prop} {Q : Exit → Act → World → Prop} {Z : Prop} (hgd : o.guard = none) (s x : Operand) (t : TypeId)
    (ho : o.op = .call { callee := .builtin .append, args := #[s, x], argTypes := #[t, t] })
    (tg : Nat × Nat × Nat) (e : TypeId) (i : TypeInfo) (ht : P.underlying t = some (.slice e)) (hi : P.info? e = some i) (hz : i.zero = some (.int .i64 0)) (hsize : i.size = 1) (hby : i.bytes = 8)
    (hr : R tg = ⟨e, 1, none, 0, 0, []⟩) (hs : a.eval s = .slice none 0 0)
    {la : Option Addr} {m lc : Nat} {zs : List Int} (hx : a.eval x = .slice la m lc) (hL : Ls w la m lc zs) (h63 : (0 + m) * 8 ≤ 140737488355328)
    (hk : ∀ bo d w', Hold base w' (updR R tg ⟨e, 1, bo, m, d, zs.map (Value.int .i64)⟩) → Below base w w' → K (a.put o.dst (.slice bo m d)) w') :
    if Region.wanted o (yielded ops a.tmps) = true then Oper.wp P o a w K Q else Z := by
  have hw : Region.wanted o (yielded ops a.tmps) = true := by simp [Region.wanted, hgd]
  rw [if_pos hw]
  have hown := h.own tg
  rw [hr] at hown
  obtain ⟨bo, d, w', hrun, h2, h3, h4, h5⟩ := run_append_loc (P := P) w base t o.type e i ht hi hz hsize hby (.slice none 0 0) 0 [] hown hL h63 h.base
  unfold Oper.wp execOp
  simp only [ho, resolve, invoke, builtin, Sem.run_bind, Sem.run_pure, Result.andThen_ok, List.map_toArray, List.map_cons, List.map_nil, hs, hx, hrun]
  rw [Nat.zero_add, List.nil_append] at h2
  rw [Nat.zero_add]
  refine hk bo d w' (h.grow tg h2 (by rw [hr]; exact h3) fun g hg => ?_) ((Below.refl _ _).grown h3 h.base fun k hk => (Rw.own.lt hown hk).1)
  rcases h4 g (by rw [Nat.zero_add]; exact hg) with h6 | h6
  · left; rw [hr]; exact h6
  · right; omega
theorem atL_le (s : List Int) (p : Int) : (atL s p).length ≤ s.length := by unfold atL; split <;> simp [ixL_len]
theorem agL_le (s t : List Int) : (agL s t).length ≤ max s.length t.length := by unfold agL; split <;> split <;> first | omega | (simp; done) | (simp; omega)
theorem cvGo_le : ∀ (m : List (List Int)) (c : List Int), c.length ≤ 8 → (cvGo c m).1.length ≤ 8
  | [], c, h => h
  | s :: r, c, h => by
    unfold cvGo
    split
    · split
      · rename_i h2; exact cvGo_le r _ (mayE_zero h2).2.1
      · simp
    · simp
theorem cvR_le (m : List (List Int)) : (cvR m).1.length ≤ 8 := by
  unfold cvR
  split
  · simp
  · split
    · rename_i h2; exact cvGo_le _ _ (mayE_zero h2).2.1
    · simp
/-- The copies: the call's box, the copy's box, the copied lists. -/
structure Cp (base : Nat) (w : World) (R : Nat × Nat × Nat → Rw) (o : Op2) (i : Nat) (wx : World) (R1 : Nat × Nat × Nat → Rw) (b1 b2 : Nat) (so : Option Addr) (sd : Nat) (tto : Option Addr) (td : Nat) (mo : Option Addr) (md : Nat) : Prop where
  h : Hold base wx R1
  x1 : R1 (7, 0, 0) = ⟨37, 5, some ⟨b1, 0, none⟩, 1, 1, o.cells.toList⟩
  x2 : R1 (7, 5, 0) = ⟨37, 5, some ⟨b2, 0, none⟩, 1, 1, [.int .i64 o.k, .slice so o.sn sd, .slice tto o.tn td, .int .i64 o.nn, .slice mo i md]⟩
  s : R1 (7, 6, 0) = lsR so o.sn sd o.s
  t : R1 (7, 7, 0) = lsR tto o.tn td o.t
  m : R1 (7, 8, 0) = ⟨25, 1, mo, i, md, (List.range i).map fun k => (R1 (7, 9, k)).v⟩
  e : ∀ k, k < i → ∃ ao n c, R1 (7, 9, k) = lsR ao n c (o.m.getD k [])
  n : ∀ t, t.1 ≠ 7 → R1 t = R t
  b : Below base w wx
theorem Cp.lss {o : Op2} {wx : World} {R1 : Nat × Nat × Nat → Rw} {b1 b2 sd td md : Nat} {so tto mo : Option Addr} (C : Cp base w R o o.mn wx R1 b1 b2 so sd tto td mo md) {w0 : World} (hM : Lss w0 o.ma o.mn o.mc o.m) : Lss wx mo o.mn md o.m := by
  have hc := C.h.cap C.m
  refine ⟨hM.len, hc.1, hM.big, hc.2.1, fun h0 => ?_⟩
  obtain ⟨g, rfl⟩ := hc.2.2.2.2 (by omega)
  refine ⟨g, 0, rfl, (C.h.lt C.m).2, fun i hi => ?_⟩
  obtain ⟨lb, lo, -, -, hcs⟩ := hM.mem h0
  obtain ⟨ai, ni, ci, -, hls⟩ := hcs i hi
  obtain ⟨ao, n, c, e⟩ := C.e i hi
  have hn : (o.m.getD i []).length = n := by have h := (C.h.cap e).2.2.1; rw [List.length_map, Nat.mul_one] at h; exact h
  refine ⟨ao, n, c, ?_, C.h.ls e (by have := hls.big; have := hls.len; omega) hls.rng⟩
  rw [Nat.zero_add]
  exact C.h.cell C.m i _ (by rw [List.getElem?_map, List.getElem?_range hi]; simp only [Option.map_some, e, lsR, Rw.v])
/-- Behind lists: two rows of rows, pair by pair the same lists. -/
def LsP (base : Nat) (w : World) (R : Nat × Nat × Nat → Rw) (e : Ending) (w' : World) : Prop :=
  ∃ (R' : Nat × Nat × Nat → Rw) (n : Nat) (lo mo : Option Addr) (lc mc : Nat), e = .returned (.tuple #[.slice lo n lc, .slice mo n mc, .bool true]) ∧ n ≤ 4096 ∧ Hold base w' R' ∧
    R' (10, 0, 0) = ⟨25, 1, lo, n, lc, (List.range n).map fun k => (R' (10, 1, k)).v⟩ ∧ R' (11, 0, 0) = ⟨25, 1, mo, n, mc, (List.range n).map fun k => (R' (11, 1, k)).v⟩ ∧
    (∀ k, k < n → ∃ (zs : List Int) (a1 a2 : Option Addr) (n1 c1 n2 c2 : Nat), zs.length ≤ 4194304 ∧ (∀ i, -9223372036854775808 ≤ zs.getD i 0 ∧ zs.getD i 0 ≤ 9223372036854775807) ∧ R' (10, 1, k) = lsR a1 n1 c1 zs ∧ R' (11, 1, k) = lsR a2 n2 c2 zs) ∧
    (∀ t, t.1 ≠ 7 → t.1 ≠ 10 → t.1 ≠ 11 → R' t = R t) ∧ Below base w w'
/-- One list each. -/
theorem lsP_one {wy : World} {R1 : Nat × Nat × Nat → Rw} (h : Hold base wy R1) {lo mo : Option Addr} {ln lc mn mc : Nat} {zs : List Int} (e1 : R1 (10, 1, 0) = lsR lo ln lc zs) (e2 : R1 (11, 1, 0) = lsR mo mn mc zs) (hz : zs.length ≤ 4194304)
    (hr : ∀ i, -9223372036854775808 ≤ zs.getD i 0 ∧ zs.getD i 0 ≤ 9223372036854775807) (hN : ∀ t, t.1 ≠ 7 → t.1 ≠ 10 → t.1 ≠ 11 → R1 t = R t) (hB : Below base w wy) (k : Nat) :
    LsP base w R (.returned (.tuple #[.slice (some ⟨wy.heap.size, 0, none⟩) 1 1, .slice (some ⟨wy.heap.size + 1, 0, none⟩) 1 1, .bool true])) (((wy.alloc (.cells #[.slice lo ln lc] 25)).alloc (.cells #[.slice mo mn mc] 25)).drewN k) := by
  have h3 := ((h.alloc (10, 0, 0) (cs := #[.slice lo ln lc]) (E := 25) (sz := 1) (n := 1) rfl (by decide)).alloc (11, 0, 0) (cs := #[.slice mo mn mc]) (E := 25) (sz := 1) (n := 1) rfl (by decide)).via (adrew _ k)
  simp only [World.size_alloc] at h3
  refine ⟨_, 1, _, _, _, _, rfl, by omega, h3, ?_, ?_, fun i hi => ?_, fun t h7 h10 h11 => ?_, hB.trans ((abvia (abvia (abal _ _) (abal _ _)) (adrew _ _)).mono h.base)⟩
  · rw [updR_ne (by simp), updR_eq]
    congr 1
    rw [show List.range 1 = [0] from rfl, List.map_singleton, updR_ne (by simp), updR_ne (by simp), e1]; rfl
  · rw [updR_eq]
    congr 1
    rw [show List.range 1 = [0] from rfl, List.map_singleton, updR_ne (by simp), updR_ne (by simp), e2]; rfl
  · obtain rfl : i = 0 := by omega
    exact ⟨zs, lo, mo, ln, lc, mn, mc, hz, hr, by rw [updR_ne (by simp), updR_ne (by simp)]; exact e1, by rw [updR_ne (by simp), updR_ne (by simp)]; exact e2⟩
  · rw [updR_ne (fun e => h11 (by rw [e])), updR_ne (fun e => h10 (by rw [e]))]; exact hN t h7 h10 h11
/-- Two lists each. -/
theorem lsP_two {wy : World} {R1 : Nat × Nat × Nat → Rw} (h : Hold base wy R1) {lo mo lo' mo' : Option Addr} {ln lc mn mc ln' lc' mn' mc' : Nat} {zs zs' : List Int} (e1 : R1 (10, 1, 0) = lsR lo ln lc zs) (e2 : R1 (11, 1, 0) = lsR mo mn mc zs) (e3 : R1 (10, 1, 1) = lsR lo' ln' lc' zs') (e4 : R1 (11, 1, 1) = lsR mo' mn' mc' zs')
    (hz : zs.length ≤ 4194304) (hr : ∀ i, -9223372036854775808 ≤ zs.getD i 0 ∧ zs.getD i 0 ≤ 9223372036854775807) (hz' : zs'.length ≤ 4194304) (hr' : ∀ i, -9223372036854775808 ≤ zs'.getD i 0 ∧ zs'.getD i 0 ≤ 9223372036854775807) (hN : ∀ t, t.1 ≠ 7 → t.1 ≠ 10 → t.1 ≠ 11 → R1 t = R t) (hB : Below base w wy) (k : Nat) :
    LsP base w R (.returned (.tuple #[.slice (some ⟨wy.heap.size, 0, none⟩) 2 2, .slice (some ⟨wy.heap.size + 1, 0, none⟩) 2 2, .bool true])) (((wy.alloc (.cells #[.slice lo ln lc, .slice lo' ln' lc'] 25)).alloc (.cells #[.slice mo mn mc, .slice mo' mn' mc'] 25)).drewN k) := by
  have h3 := ((h.alloc (10, 0, 0) (cs := #[.slice lo ln lc, .slice lo' ln' lc']) (E := 25) (sz := 1) (n := 2) rfl (by decide)).alloc (11, 0, 0) (cs := #[.slice mo mn mc, .slice mo' mn' mc']) (E := 25) (sz := 1) (n := 2) rfl (by decide)).via (adrew _ k)
  simp only [World.size_alloc] at h3
  refine ⟨_, 2, _, _, _, _, rfl, by omega, h3, ?_, ?_, fun i hi => ?_, fun t h7 h10 h11 => ?_, hB.trans ((abvia (abvia (abal _ _) (abal _ _)) (adrew _ _)).mono h.base)⟩
  · rw [updR_ne (by simp), updR_eq]
    congr 1
    rw [show List.range 2 = [0, 1] from rfl, List.map_cons, List.map_singleton, updR_ne (by simp), updR_ne (by simp), updR_ne (by simp), updR_ne (by simp), e1, e3]; rfl
  · rw [updR_eq]
    congr 1
    rw [show List.range 2 = [0, 1] from rfl, List.map_cons, List.map_singleton, updR_ne (by simp), updR_ne (by simp), updR_ne (by simp), updR_ne (by simp), e2, e4]; rfl
  · rcases Nat.lt_or_ge i 1 with h1 | h1
    · obtain rfl : i = 0 := by omega
      exact ⟨zs, lo, mo, ln, lc, mn, mc, hz, hr, by rw [updR_ne (by simp), updR_ne (by simp)]; exact e1, by rw [updR_ne (by simp), updR_ne (by simp)]; exact e2⟩
    · obtain rfl : i = 1 := by omega
      exact ⟨zs', lo', mo', ln', lc', mn', mc', hz', hr', by rw [updR_ne (by simp), updR_ne (by simp)]; exact e3, by rw [updR_ne (by simp), updR_ne (by simp)]; exact e4⟩
  · rw [updR_ne (fun e => h11 (by rw [e])), updR_ne (fun e => h10 (by rw [e]))]; exact hN t h7 h10 h11
theorem Hold.madeLL {w' : World} (h : Hold base w R) {t1 t2 : Nat × Nat × Nat} (h12 : t1 ≠ t2) {ao bo : Option Addr} {n c m d : Nat} {xs ys : List Int} (hO1 : w'.ownsRow w.heap.size 3 1 (.slice ao n c) n (xs.map (Value.int .i64)))
    (hO2 : w'.ownsRow w.heap.size 3 1 (.slice bo m d) m (ys.map (Value.int .i64))) (hne : ∀ g, (Value.slice ao n c).ownBlock = some g → (Value.slice bo m d).ownBlock ≠ some g) (hb' : Below w.heap.size w w') : Hold base w' (updR (updR R t1 (lsR ao n c xs)) t2 (lsR bo m d ys)) := by
  have ha : Hold base w' (updR R t1 (lsR ao n c xs)) := h.new t1 (own_mono hO1 h.base) hb' (fun g hg => (own_block hO1 hg).1)
  refine ha.add t2 (r := lsR bo m d ys) (own_mono hO2 h.base) (fun s hs g hg hs' => ?_)
  have hg1 := (own_block hO2 hg).1
  by_cases e : s = t1
  · subst e
    rw [updR_eq] at hs'
    exact hne g hs' hg
  · rw [updR_ne e] at hs'
    have := ((h.own s).lt hs').2
    omega
/-- The first k places are noted: two boxes, two rows of lists. -/
structure LvF (base : Nat) (w : World) (R R6 : Nat × Nat × Nat → Rw) (s : List Int) (gb : Nat) (k : Nat) (W : World) (Rk : Nat × Nat × Nat → Rw) (go wo : Option Addr) (gc wc : Nat) : Prop where
  h : Hold base W Rk
  x1 : Rk (10, 2, 0) = ⟨29, 1, some ⟨gb, 0, none⟩, 1, 1, [.slice go k gc]⟩
  x2 : Rk (11, 2, 0) = ⟨29, 1, some ⟨gb + 1, 0, none⟩, 1, 1, [.slice wo k wc]⟩
  l1 : Rk (10, 0, 0) = ⟨25, 1, go, k, gc, (List.range k).map fun j => (Rk (10, 1, j)).v⟩
  l2 : Rk (11, 0, 0) = ⟨25, 1, wo, k, wc, (List.range k).map fun j => (Rk (11, 1, j)).v⟩
  e : ∀ j, j < k → ∃ (a1 a2 : Option Addr) (n1 c1 n2 c2 : Nat), Rk (10, 1, j) = lsR a1 n1 c1 (ixL s j) ∧ Rk (11, 1, j) = lsR a2 n2 c2 (ixL s j)
  q : ∀ t, t.1 = 7 → Rk t = R6 t
  n : ∀ t, t.1 ≠ 7 → t.1 ≠ 10 → t.1 ≠ 11 → Rk t = R t
  b : Below base w W
def LvI (base : Nat) (w : World) (R R6 : Nat × Nat × Nat → Rw) (s : List Int) (gb : Nat) (k : Nat) (W : World) : Prop := ∃ Rk go wo gc wc, LvF base w R R6 s gb k W Rk go wo gc wc
def LvG (base : Nat) (w : World) (R R6 : Nat × Nat × Nat → Rw) (s : List Int) (gb : Nat) (k : Nat) (x : Rnd) (W : World) : Prop := x.1 = k ∧ ∃ Rk go wo gc wc, LvF base w R R6 s gb k W Rk go wo gc wc ∧ Rk (10, 1, k) = lsR x.2.1 x.2.2.1 x.2.2.2 (ixL s k)
theorem lvF_bears {R6 : Nat × Nat × Nat → Rw} {s : List Int} {gb k : Nat} {W W' : World} {Rk : Nat × Nat × Nat → Rw} {go wo : Option Addr} {gc wc B : Nat} (h : LvF base w R R6 s gb k W Rk go wo gc wc) {row : Option Nat} (hB : base ≤ B) (hg : W.grownBy W' row) (hr : ∀ r, row = some r → B ≤ r ∧ ∃ o : Obj, W.heap[r]? = some o ∧ o.isCells = false) : LvF base w R R6 s gb k W' Rk go wo gc wc :=
  ⟨hold_bears B W W' row h.h hg hr, h.x1, h.x2, h.l1, h.l2, h.e, h.q, h.n, h.b.grown hg h.h.base (fun k e => Nat.le_trans hB (hr k e).1)⟩
/-- A list each more. -/
theorem LvF.more {R6 : Nat × Nat × Nat → Rw} {s : List Int} {gb k : Nat} {W W4 : World} {Rk : Nat × Nat × Nat → Rw} {go wo go' wo' : Option Addr} {gc wc gc' wc' : Nat} (h : LvF base w R R6 s gb k W Rk go wo gc wc) {a1 : Option Addr} {n1 c1 : Nat} (e1 : Rk (10, 1, k) = lsR a1 n1 c1 (ixL s k))
    {a2 : Option Addr} {n2 c2 : Nat} {R2 R3 R4 : Nat × Nat × Nat → Rw} (hR2 : R2 = updR Rk (11, 1, k) (lsR a2 n2 c2 (ixL s k)))
    (hR3 : R3 = updR (updR R2 (10, 0, 0) ⟨25, 1, go', k + 1, gc', ((List.range k).map fun j => (Rk (10, 1, j)).v) ++ [.slice a1 n1 c1]⟩) (10, 2, 0) ⟨29, 1, some ⟨gb, 0, none⟩, 1, 1, [.slice go' (k + 1) gc']⟩)
    (hR4 : R4 = updR (updR R3 (11, 0, 0) ⟨25, 1, wo', k + 1, wc', ((List.range k).map fun j => (Rk (11, 1, j)).v) ++ [.slice a2 n2 c2]⟩) (11, 2, 0) ⟨29, 1, some ⟨gb + 1, 0, none⟩, 1, 1, [.slice wo' (k + 1) wc']⟩) (hH : Hold base W4 R4) (hB : Below base w W4) :
    LvF base w R R6 s gb (k + 1) W4 R4 go' wo' gc' wc' := by
  have r10 : ∀ j, R4 (10, 1, j) = Rk (10, 1, j) := fun j => by rw [hR4, updR_ne (by simp), updR_ne (by simp), hR3, updR_ne (by simp), updR_ne (by simp), hR2, updR_ne (by simp)]
  have r11 : ∀ j, j ≠ k → R4 (11, 1, j) = Rk (11, 1, j) := fun j hj => by rw [hR4, updR_ne (by simp), updR_ne (by simp), hR3, updR_ne (by simp), updR_ne (by simp), hR2, updR_ne (by simpa using hj)]
  have r11k : R4 (11, 1, k) = lsR a2 n2 c2 (ixL s k) := by rw [hR4, updR_ne (by simp), updR_ne (by simp), hR3, updR_ne (by simp), updR_ne (by simp), hR2, updR_eq]
  refine ⟨hH, ?_, ?_, ?_, ?_, fun j hj => ?_, fun t ht => ?_, fun t h7 h10 h11 => ?_, hB⟩
  · rw [hR4, updR_ne (by simp), updR_ne (by simp), hR3, updR_eq]
  · rw [hR4, updR_eq]
  · rw [hR4, updR_ne (by simp), updR_ne (by simp), hR3, updR_ne (by simp), updR_eq, List.range_succ, List.map_append, List.map_singleton]
    rw [hR4, hR3] at r10
    congr 2
    · exact List.map_congr_left fun j _ => by rw [r10]
    · rw [r10, e1]; rfl
  · have e : R4 (11, 0, 0) = ⟨25, 1, wo', k + 1, wc', ((List.range k).map fun j => (Rk (11, 1, j)).v) ++ [.slice a2 n2 c2]⟩ := by rw [hR4, updR_ne (by simp), updR_eq]
    rw [e, List.range_succ, List.map_append, List.map_singleton]
    congr 2
    · exact List.map_congr_left fun j hj => by rw [r11 j (by have := List.mem_range.1 hj; omega)]
    · rw [r11k]; rfl
  · by_cases ej : j = k
    · subst ej; exact ⟨a1, a2, n1, c1, n2, c2, by rw [r10]; exact e1, r11k⟩
    · obtain ⟨x1, x2, y1, y2, y3, y4, z1, z2⟩ := h.e j (by omega)
      exact ⟨x1, x2, y1, y2, y3, y4, by rw [r10]; exact z1, by rw [r11 j ej]; exact z2⟩
  · rw [hR4, updR_ne (fun e => by rw [e] at ht; cases ht), updR_ne (fun e => by rw [e] at ht; cases ht), hR3, updR_ne (fun e => by rw [e] at ht; cases ht), updR_ne (fun e => by rw [e] at ht; cases ht), hR2, updR_ne (fun e => by rw [e] at ht; cases ht)]; exact h.q t ht
  · rw [hR4, updR_ne (fun e => h11 (by rw [e])), updR_ne (fun e => h11 (by rw [e])), hR3, updR_ne (fun e => h10 (by rw [e])), updR_ne (fun e => h10 (by rw [e])), hR2, updR_ne (fun e => h11 (by rw [e]))]; exact h.n t h7 h10 h11
theorem ix_rng {s : List Int} (hm : mayE s = 0) {k : Nat} (hk : (k : Int) < pr s) (hr : ∀ i, -9223372036854775808 ≤ s.getD i 0 ∧ s.getD i 0 ≤ 9223372036854775807) : ∀ i, -9223372036854775808 ≤ (ixL s k).getD i 0 ∧ (ixL s k).getD i 0 ≤ 9223372036854775807 := by
  intro i
  by_cases hi : i < s.length
  · have h1 := ixL_rng (s := s) (p := k) (pos_all (mayE_zero hm).1 (by omega)) i hi
    have h2 := hr i
    omega
  · rw [List.getD_eq_getElem?_getD, List.getElem?_eq_none (by rw [ixL_len]; omega)]; simp
theorem lvI_lsP {R6 : Nat × Nat × Nat → Rw} {s : List Int} {gb k : Nat} {W : World} (h : LvI base w R R6 s gb k W) (hk : k ≤ 4096) (hs : s.length ≤ 4194304) (hr : ∀ j, j < k → ∀ i, -9223372036854775808 ≤ (ixL s j).getD i 0 ∧ (ixL s j).getD i 0 ≤ 9223372036854775807) :
    ∃ go wo gc wc, W.cell? ⟨gb, 0, none⟩ = some (.slice go k gc) ∧ W.cell? ⟨gb + 1, 0, none⟩ = some (.slice wo k wc) ∧ ∀ W', (∃ Rk, LvF base w R R6 s gb k W' Rk go wo gc wc) → LsP base w R (.returned (.tuple #[.slice go k gc, .slice wo k wc, .bool true])) W' := by
  obtain ⟨Rk, go, wo, gc, wc, h⟩ := h
  refine ⟨go, wo, gc, wc, h.h.cell h.x1 0 _ rfl, h.h.cell h.x2 0 _ rfl, fun W' ⟨Rk', h'⟩ => ⟨Rk', k, go, wo, gc, wc, rfl, hk, h'.h, h'.l1, h'.l2, fun j hj => ?_, h'.n, h'.b⟩⟩
  obtain ⟨x1, x2, y1, y2, y3, y4, z1, z2⟩ := h'.e j hj
  exact ⟨ixL s j, x1, x2, y1, y2, y3, y4, by rw [ixL_len]; exact hs, hr j hj, z1, z2⟩
set_option maxRecDepth 100000 in
set_option maxHeartbeats 6400000 in
theorem lists2_any {w0 : World} (H : Hold base w R) {o : Op2} (hI : o.Is w0) (h0 : w0.heap.size ≤ base) (hb0 : Below base w0 w) (hmn : o.mn ≤ 900000) (hsn : o.sn ≤ 4194304) (htn : o.tn ≤ 4194304) :
    Calls Try.prog 15 #[.agg o.cells] w (LsP base w R) := by
  obtain ⟨kk, sa, sn, sc, s, ta, tn, tc, t, nn, ma, mn, mc, m⟩ := o
  simp only [Op2.cells]
  obtain ⟨hS, hT, hM, hnn⟩ := hI
  simp only at hS hT hM hnn hmn hsn htn
  have SS : Hid (∀ wy, Below base w wy → Ls wy sa sn sc s) := fun wy hy => hS.below (hb0.trans hy) h0
  have TT : Hid (∀ wy, Below base w wy → Ls wy ta tn tc t) := fun wy hy => hT.below (hb0.trans hy) h0
  have MM : Hid (∀ wy, Below base w wy → Lss wy ma mn mc m) := fun wy hy => hM.below (hb0.trans hy) h0
  have S0 := Lib.hid hS
  have T0 := Lib.hid hT
  have M0 := Lib.hid hM
  have HB0 := Lib.hid (And.intro h0 hb0)
  have NN := Lib.hid hnn
  obtain ⟨W1, HW1⟩ : ∃ z, Hid (w.alloc (.cells #[.int .i64 kk, .slice sa sn sc, .slice ta tn tc, .int .i64 nn, .slice ma mn mc] 37) = z) := ⟨_, rfl⟩
  have hH1 := H.alloc (7, 0, 0) (cs := #[.int .i64 kk, .slice sa sn sc, .slice ta tn tc, .int .i64 nn, .slice ma mn mc]) (E := 37) (sz := 5) (n := 1) rfl (by decide)
  rw [HW1.out] at hH1
  have hB1 : Below base w W1 := by rw [← HW1.out]; exact (abal _ _).mono H.base
  have c0 := hH1.cell updR_eq 0 _ rfl
  have c1 := hH1.cell updR_eq 1 _ rfl
  have c2 := hH1.cell updR_eq 2 _ rfl
  have c3 := hH1.cell updR_eq 3 _ rfl
  have c4 := hH1.cell updR_eq 4 _ rfl
  have HH1 := Lib.hid hH1
  have HB1 := Lib.hid hB1
  clear H hS hT hM hnn h0 hb0 hH1 hB1
  refine calls_marks Try.func15 rfl ?_
  simp only [Try.ntmps15, List.size_toArray, List.length_cons, List.length_nil, Nat.reduceAdd, Nat.reduceSub, Array.replicate_succ, Array.replicate_zero, List.push_toArray, List.append_toArray, List.nil_append, List.cons_append]
  go_upto_region 1 with fail
  rw [HW1.out]
  go_upto_region 2 with fail
  obtain ⟨W2, HW2⟩ : ∃ z, Hid (W1.alloc (.cells #[.int .i64 kk, .slice sa sn sc, .slice ta tn tc, .int .i64 nn, .slice ma mn mc] 37) = z) := ⟨_, rfl⟩
  have h2 := (HH1.out.alloc (7, 5, 0) (cs := #[.int .i64 kk, .slice sa sn sc, .slice ta tn tc, .int .i64 nn, .slice ma mn mc]) (E := 37) (sz := 5) (n := 1) rfl (by decide)).add (7, 6, 0) (r := ⟨3, 1, none, 0, 0, []⟩) (World.ownsRow_nil _ _ _ _) (fun s _ g hg => by cases hg)
  rw [HW2.out] at h2 ⊢
  have hb2 : Below base w W2 := HB1.out.trans (by rw [← HW2.out]; exact (abal _ _).mono HH1.out.base)
  obtain ⟨R2, HR2⟩ : ∃ z, Hid (updR (updR (updR R (7, 0, 0) ⟨37, 5, some ⟨w.heap.size, 0, none⟩, 1, 1, #[.int .i64 kk, .slice sa sn sc, .slice ta tn tc, .int .i64 nn, .slice ma mn mc].toList⟩) (7, 5, 0) ⟨37, 5, some ⟨W1.heap.size, 0, none⟩, 1, 1, #[.int .i64 kk, .slice sa sn sc, .slice ta tn tc, .int .i64 nn, .slice ma mn mc].toList⟩) (7, 6, 0) ⟨3, 1, none, 0, 0, []⟩ = z) := ⟨_, rfl⟩
  rw [HR2.out] at h2
  have e20 : Hid (R2 (7, 0, 0) = ⟨37, 5, some ⟨w.heap.size, 0, none⟩, 1, 1, [.int .i64 kk, .slice sa sn sc, .slice ta tn tc, .int .i64 nn, .slice ma mn mc]⟩) := by show _ = _; rw [← HR2.out, updR_ne (by simp), updR_ne (by simp), updR_eq]
  have e25 : Hid (R2 (7, 5, 0) = ⟨37, 5, some ⟨W1.heap.size, 0, none⟩, 1, 1, [.int .i64 kk, .slice sa sn sc, .slice ta tn tc, .int .i64 nn, .slice ma mn mc]⟩) := by show _ = _; rw [← HR2.out, updR_ne (by simp), updR_eq]
  have e26 : Hid (R2 (7, 6, 0) = ⟨3, 1, none, 0, 0, []⟩) := by show _ = _; rw [← HR2.out, updR_eq]
  have e2N : Hid (∀ t, t.1 ≠ 7 → R2 t = R t) := fun t ht => by rw [← HR2.out, updR_ne (fun e => ht (by rw [e])), updR_ne (fun e => ht (by rw [e])), updR_ne (fun e => ht (by rw [e]))]
  obtain ⟨b1, HB1n⟩ : ∃ z, Hid (w.heap.size = z) := ⟨_, rfl⟩
  obtain ⟨b2, HB2n⟩ : ∃ z, Hid (W1.heap.size = z) := ⟨_, rfl⟩
  rw [HB1n.out] at e20 ⊢
  rw [HB2n.out] at e25 ⊢
  have H2 := Lib.hid h2
  have HB2 := Lib.hid hb2
  obtain ⟨i0, hi0, hz0, hz1, hz2⟩ := info_parts (P := Try.prog) (e := 3) (z := .int .i64 0) (size := 1) (bytes := 8) (by kernel_rfl)
  have d1 := H2.out.cell e20.out 1 _ rfl
  have g1 : (0 + sn) * 8 ≤ 140737488355328 := by have := S0.out.big; omega
  have g2 : (0 + tn) * 8 ≤ 140737488355328 := by have := T0.out.big; omega
  have HL2 := Lib.hid (SS.out W2 hb2)
  clear h2 hb2 c0 c1 c2 c3 c4
  go_wp2_with (at_builtin; refine Hold.wpList_ls H2.out rfl _ _ 25 rfl (7, 6, 0) 3 i0 Try.underlying25 hi0 hz0 hz1 hz2 (xs := []) e26.out rfl rfl HL2.out g1 ?_)
  intro so sd W3 hH3 hB3 _
  have f1 := hH3.cell ((updR_ne (by simp)).trans e25.out) 1 _ rfl
  have f2 := hH3.frozen ((updR_ne (by simp)).trans e25.out) 1
  have hP3 := (hH3.put ((updR_ne (by simp)).trans e25.out) 1 (.slice so sn sd)).add (7, 7, 0) (r := ⟨3, 1, none, 0, 0, []⟩) (World.ownsRow_nil _ _ _ _) (fun s _ g hg => by cases hg)
  have hPB3 := HB2.out.trans (hB3.trans (hH3.putB ((updR_ne (by simp)).trans e25.out) 1 (.slice so sn sd)))
  obtain ⟨W4, HW4⟩ : ∃ z, Hid (W3.setCell ⟨b2, 1, none⟩ (.slice so sn sd) = z) := ⟨_, rfl⟩
  rw [HW4.out] at hP3 hPB3
  obtain ⟨R4, HR4⟩ : ∃ z, Hid (updR (updR (updR R2 (7, 6, 0) ⟨3, 1, so, sn, sd, s.map (Value.int .i64)⟩) (7, 5, 0) ⟨37, 5, some ⟨b2, 0, none⟩, 1, 1, [.int .i64 kk, .slice sa sn sc, .slice ta tn tc, .int .i64 nn, .slice ma mn mc].set 1 (.slice so sn sd)⟩) (7, 7, 0) ⟨3, 1, none, 0, 0, []⟩ = z) := ⟨_, rfl⟩
  rw [HR4.out] at hP3
  have e40 : Hid (R4 (7, 0, 0) = ⟨37, 5, some ⟨b1, 0, none⟩, 1, 1, [.int .i64 kk, .slice sa sn sc, .slice ta tn tc, .int .i64 nn, .slice ma mn mc]⟩) := by show _ = _; rw [← HR4.out, updR_ne (by simp), updR_ne (by simp), updR_ne (by simp)]; exact e20.out
  have e45 : Hid (R4 (7, 5, 0) = ⟨37, 5, some ⟨b2, 0, none⟩, 1, 1, [.int .i64 kk, .slice so sn sd, .slice ta tn tc, .int .i64 nn, .slice ma mn mc]⟩) := by show _ = _; rw [← HR4.out, updR_ne (by simp), updR_eq]; rfl
  have e46 : Hid (R4 (7, 6, 0) = lsR so sn sd s) := by show _ = _; rw [← HR4.out, updR_ne (by simp), updR_ne (by simp), updR_eq]; rfl
  have e47 : Hid (R4 (7, 7, 0) = ⟨3, 1, none, 0, 0, []⟩) := by show _ = _; rw [← HR4.out, updR_eq]
  have e4N : Hid (∀ t, t.1 ≠ 7 → R4 t = R t) := fun t ht => by rw [← HR4.out, updR_ne (fun e => ht (by rw [e])), updR_ne (fun e => ht (by rw [e])), updR_ne (fun e => ht (by rw [e]))]; exact e2N.out t ht
  have H4 := Lib.hid hP3
  have HB4 := Lib.hid hPB3
  clear hH3 hB3 hP3 hPB3 d1 HH1 HB1 H2 HB2
  go_upto_region 3 with fail
  rw [HW4.out]
  clear f1 f2
  have d2 := H4.out.cell e40.out 2 _ rfl
  have HL4 := Lib.hid (TT.out W4 HB4.out)
  go_wp2_with (at_builtin; refine Hold.wpList_ls H4.out rfl _ _ 25 rfl (7, 7, 0) 3 i0 Try.underlying25 hi0 hz0 hz1 hz2 (xs := []) e47.out rfl rfl HL4.out g2 ?_)
  intro tto td W5 hH5 hB5 _
  have f1 := hH5.cell ((updR_ne (by simp)).trans e45.out) 2 _ rfl
  have f2 := hH5.frozen ((updR_ne (by simp)).trans e45.out) 2
  have hP5 := hH5.put ((updR_ne (by simp)).trans e45.out) 2 (.slice tto tn td)
  have hPB5 := HB4.out.trans (hB5.trans (hH5.putB ((updR_ne (by simp)).trans e45.out) 2 (.slice tto tn td)))
  obtain ⟨W6, HW6⟩ : ∃ z, Hid (W5.setCell ⟨b2, 2, none⟩ (.slice tto tn td) = z) := ⟨_, rfl⟩
  rw [HW6.out] at hP5 hPB5
  have f3 := hP5.cell updR_eq 4 _ rfl
  have f4 := hP5.frozen updR_eq 4
  have hP6 := (hP5.put updR_eq 4 (.slice none 0 0)).add (7, 8, 0) (r := ⟨25, 1, none, 0, 0, []⟩) (World.ownsRow_nil _ _ _ _) (fun s _ g hg => by cases hg)
  have hPB6 := hPB5.trans (hP5.putB updR_eq 4 (.slice none 0 0))
  have HCp : Hid (∃ R1 so sd tto td mo md, Cp base w R ⟨kk, sa, sn, sc, s, ta, tn, tc, t, nn, ma, mn, mc, m⟩ 0 (W6.setCell ⟨b2, 4, none⟩ (.slice none 0 0)) R1 b1 b2 so sd tto td mo md) := by
    refine ⟨_, so, sd, tto, td, none, 0, hP6, ?_, ?_, ?_, ?_, ?_, fun k hk => absurd hk (Nat.not_lt_zero _), fun t ht => ?_, hPB6⟩
    · rw [updR_ne (by simp), updR_ne (by simp), updR_ne (by simp), updR_ne (by simp)]; exact e40.out
    · rw [updR_ne (by simp), updR_eq]; rfl
    · rw [updR_ne (by simp), updR_ne (by simp), updR_ne (by simp), updR_ne (by simp)]; exact e46.out
    · rw [updR_ne (by simp), updR_ne (by simp), updR_ne (by simp), updR_eq]; rfl
    · rw [updR_eq]; rfl
    · rw [updR_ne (fun e => ht (by rw [e])), updR_ne (fun e => ht (by rw [e])), updR_ne (fun e => ht (by rw [e])), updR_ne (fun e => ht (by rw [e]))]; exact e4N.out t ht
  clear hH5 hB5 hP5 hPB5 hP6 hPB6 d2 H4 HB4 HL4 HL2
  go_upto_region 4 with fail
  rw [HW6.out]
  clear f1 f2
  go_wp2_with fail
  go_loopw [6] (fun v6 wx => ∃ i : Nat, i ≤ mn ∧ v6 = .int .i64 i ∧ Hid (∃ R1 so sd tto td mo md, Cp base w R ⟨kk, sa, sn, sc, s, ta, tn, tc, t, nn, ma, mn, mc, m⟩ i wx R1 b1 b2 so sd tto td mo md)) (fun v6 _ => mn - (RowKit.intOf v6).toNat)
  case atStart => exact ⟨0, Nat.zero_le _, rfl, HCp⟩
  case round =>
    clear HCp f3 f4
    obtain ⟨i, hi, rfl, HC⟩ := hrel
    obtain ⟨R1, so, sd, tto, td, mo, md, C⟩ := HC.out
    have c4 : wr.cell? ⟨b1, 4, none⟩ = some (.slice ma mn mc) := C.h.cell C.x1 4 _ rfl
    by_cases hlt : i < mn
    · have hlt' : (i : Int) < mn := by omega
      obtain ⟨lb, lo, rfl, hlb, hcs⟩ := M0.out.mem (by omega)
      obtain ⟨ai, ni, ci, dl0, hls⟩ := hcs i hlt
      have hBw : Below base w0 wr := HB0.out.2.trans C.b
      have dl : wr.cell? ⟨lb, lo + i, none⟩ = some (.slice ai ni ci) := (hBw.cell (p := ⟨lb, lo + i, none⟩) (Nat.lt_of_lt_of_le hlb HB0.out.1)).trans dl0
      have d4 : wr.cell? ⟨b2, 4, none⟩ = some (.slice mo i md) := C.h.cell C.x2 4 _ rfl
      have ha := C.h.add (7, 9, i) (r := ⟨3, 1, none, 0, 0, []⟩) (World.ownsRow_nil _ _ _ _) (fun s _ g hg => by cases hg)
      have CC := Lib.hid C
      obtain ⟨Ra, HRa⟩ : ∃ z, Hid (updR R1 (7, 9, i) ⟨3, 1, none, 0, 0, []⟩ = z) := ⟨_, rfl⟩
      rw [HRa.out] at ha
      have ra9 : Hid (Ra (7, 9, i) = ⟨3, 1, none, 0, 0, []⟩) := by show _ = _; rw [← HRa.out, updR_eq]
      have raN : Hid (∀ t, t ≠ (7, 9, i) → Ra t = R1 t) := fun t ht => by rw [← HRa.out, updR_ne ht]
      have HAd := Lib.hid (ha.via (adrew1 wr))
      have HA := Lib.hid ha
      have HLd := Lib.hid ((hls.below hBw HB0.out.1).drew 1)
      have gi : (0 + ni) * 8 ≤ 140737488355328 := by have := hls.big; omega
      obtain ⟨i1, hi1, hz01, hz11, hz21⟩ := info_parts (P := Try.prog) (e := 25) (z := .slice none 0 0) (size := 1) (bytes := 24) (by kernel_rfl)
      have hmx : i + 1 ≤ maxLen := by unfold maxLen; omega
      have hbyt : (i + 1) * 24 ≤ 140737488355328 := by omega
      have x2a : Hid (Ra (7, 5, 0) = ⟨37, 5, some ⟨b2, 0, none⟩, 1, 1, [.int .i64 kk, .slice so sn sd, .slice tto tn td, .int .i64 nn, .slice mo i md]⟩) := (raN.out _ (by simp)).trans C.x2
      have m8a : Hid (Ra (7, 8, 0) = ⟨25, 1, mo, i, md, (List.range i).map fun k => (R1 (7, 9, k)).v⟩) := (raN.out _ (by simp)).trans C.m
      have HNI := Lib.hid hls.len
      clear C ha hls hcs dl0 hBw hlb HC
      go_upto_region 8 with fail
      go_region_law (first
        | (refine Hold.step_ls HAd.out rfl _ _ 25 (by rfl) (7, 9, i) 3 i0 Try.underlying25 hi0 hz0 hz1 hz2 ra9.out (by rfl) (by rfl) HLd.out gi ?_; intro bo d w5 hI5 hB5; have hN5 := hI5.via (abal w5 (.cells #[.slice bo ni d] 25)); have hnew : (w5.alloc (.cells #[.slice bo ni d] 25)).cell? ⟨w5.heap.size, 0, none⟩ = some (.slice bo ni d) := (by simp [go_sem]); have k4 := hI5.cell ((updR_ne (by simp)).trans x2a.out) 4 _ rfl; have k5 := hN5.cell ((updR_ne (by simp)).trans x2a.out) 4 _ rfl)
        | (refine Hold.step_append hN5 rfl _ _ 29 (by rfl) (7, 8, 0) 25 i1 (.slice none 0 0) 1 24 Try.underlying29 hi1 hz01 hz11 hz21 rfl (by decide) ((updR_ne (by simp)).trans m8a.out) (by rfl) ⟨w5.heap.size, 0, none⟩ 1 1 (by rfl) [.slice bo ni d] rfl (by intro j u hj; (cases j with | zero => simp at hj; subst hj; exact hnew | succ j => simp at hj)) (by simp [Value.oneCell']) hmx hbyt ?_; intro b9 d9 w9 hH9 hB9; have q1 := hH9.cell ((updR_ne (by simp)).trans ((updR_ne (by simp)).trans x2a.out)) 4 _ rfl; have q2 := hH9.frozen ((updR_ne (by simp)).trans ((updR_ne (by simp)).trans x2a.out)) 4))
      all_goals
        have HF : Hid (∃ R1 so sd tto td mo md, Cp base w R ⟨kk, sa, sn, sc, s, ta, tn, tc, t, nn, some ⟨lb, lo, none⟩, mn, mc, m⟩ (i + 1) (w9.setCell ⟨b2, 4, none⟩ (.slice b9 (i + 1) d9)) R1 b1 b2 so sd tto td mo md) := by
          have x2b : updR (updR Ra (7, 9, i) ⟨3, 1, bo, ni, d, (m.getD i []).map (Value.int .i64)⟩) (7, 8, 0) ⟨25, 1, b9, i + 1, d9, ((List.range i).map fun k => (R1 (7, 9, k)).v) ++ [.slice bo ni d]⟩ (7, 5, 0) = ⟨37, 5, some ⟨b2, 0, none⟩, 1, 1, [.int .i64 kk, .slice so sn sd, .slice tto tn td, .int .i64 nn, .slice mo i md]⟩ := by rw [updR_ne (by simp), updR_ne (by simp)]; exact x2a.out
          have hX := hH9.put x2b 4 (.slice b9 (i + 1) d9)
          have hN : ∀ t, t ≠ (7, 5, 0) → t ≠ (7, 8, 0) → t ≠ (7, 9, i) → updR (updR (updR Ra (7, 9, i) ⟨3, 1, bo, ni, d, (m.getD i []).map (Value.int .i64)⟩) (7, 8, 0) ⟨25, 1, b9, i + 1, d9, ((List.range i).map fun k => (R1 (7, 9, k)).v) ++ [.slice bo ni d]⟩) (7, 5, 0) ⟨37, 5, some ⟨b2, 0, none⟩, 1, 1, [.int .i64 kk, .slice so sn sd, .slice tto tn td, .int .i64 nn, .slice mo i md].set 4 (.slice b9 (i + 1) d9)⟩ t = R1 t := fun t h1 h2 h3 => by rw [updR_ne h1, updR_ne h2, updR_ne h3]; exact raN.out t h3
          refine ⟨_, so, sd, tto, td, b9, d9, hX, ?_, by rw [updR_eq]; rfl, ?_, ?_, ?_, fun k hk => ?_, fun t ht => ?_, CC.out.b.trans ((Below.refl _ _).drew.trans (hB5.trans ((((abal _ _).mono hI5.base).trans hB9).trans (hH9.putB x2b 4 _))))⟩
          · rw [hN _ (by simp) (by simp) (by simp)]; exact CC.out.x1
          · rw [hN _ (by simp) (by simp) (by simp)]; exact CC.out.s
          · rw [hN _ (by simp) (by simp) (by simp)]; exact CC.out.t
          · rw [updR_ne (by simp), updR_eq, List.range_succ, List.map_append, List.map_singleton, updR_ne (by simp), updR_ne (by simp), updR_eq]
            congr 2
            exact List.map_congr_left fun k hk => by rw [hN _ (by simp) (by simp) (by simp; have := List.mem_range.1 hk; omega)]
          · by_cases e : k = i
            · subst e
              exact ⟨bo, ni, d, by rw [updR_ne (by simp), updR_ne (by simp), updR_eq]; rfl⟩
            · rw [hN _ (by simp) (by simp) (by simp; omega)]
              exact CC.out.e k (by omega)
          · rw [hN _ (fun e => ht (by rw [e])) (fun e => ht (by rw [e])) (fun e => ht (by rw [e]))]; exact CC.out.n t ht
        clear hI5 hB5 hN5 hnew k4 k5 hH9 hB9 q1 q2
        go_wp2
        go_roundw
        case rel => first | exact ⟨i + 1, by omega, by go_num, HF⟩ | ((repeat apply Exists.intro); exact ⟨⟨i + 1, by omega, by go_num, HF⟩, rfl⟩)
        case measure => simp [RowKit.intOf]; omega
    · have hge : (mn : Int) ≤ i := by omega
      obtain rfl : i = mn := by omega
      have CC := Lib.hid C
      have c0 : wr.cell? ⟨b2, 0, none⟩ = some (.int .i64 kk) := C.h.cell C.x2 0 _ rfl
      have X : Hid (∀ (wy : World) (Ry : Nat × Nat × Nat → Rw), Hold base wy Ry → (∀ t, t.1 = 7 → Ry t = R1 t) → wy.cell? ⟨b1, 1, none⟩ = some (.slice sa sn sc) ∧ wy.cell? ⟨b1, 2, none⟩ = some (.slice ta tn tc) ∧ wy.cell? ⟨b1, 3, none⟩ = some (.int .i64 nn) ∧ wy.cell? ⟨b1, 4, none⟩ = some (.slice ma i mc) ∧
        wy.cell? ⟨b2, 1, none⟩ = some (.slice so sn sd) ∧ wy.cell? ⟨b2, 2, none⟩ = some (.slice tto tn td) ∧ wy.cell? ⟨b2, 3, none⟩ = some (.int .i64 nn) ∧ wy.cell? ⟨b2, 4, none⟩ = some (.slice mo i md)) := fun wy Ry h e =>
        ⟨h.cell ((e _ rfl).trans CC.out.x1) 1 _ rfl, h.cell ((e _ rfl).trans CC.out.x1) 2 _ rfl, h.cell ((e _ rfl).trans CC.out.x1) 3 _ rfl, h.cell ((e _ rfl).trans CC.out.x1) 4 _ rfl, h.cell ((e _ rfl).trans CC.out.x2) 1 _ rfl, h.cell ((e _ rfl).trans CC.out.x2) 2 _ rfl, h.cell ((e _ rfl).trans CC.out.x2) 3 _ rfl, h.cell ((e _ rfl).trans CC.out.x2) 4 _ rfl⟩
      have LS : Hid (Ls wr so sn sd s) := CC.out.h.ls CC.out.s S0.out.big S0.out.rng
      have LT : Hid (Ls wr tto tn td t) := CC.out.h.ls CC.out.t T0.out.big T0.out.rng
      have LM : Hid (Lss wr mo i md m) := CC.out.lss M0.out
      have SL := Lib.hid (And.intro S0.out.len T0.out.len)
      obtain ⟨p1, p2, p3, p4, p5, p6, p7, p8⟩ := X.out wr R1 C.h (fun _ _ => rfl)
      clear C HC
      have HSN := Lib.hid (And.intro hsn htn)
      clear hsn htn
      by_cases k4 : kk = 4
      · subst k4
        have CA := Lib.hid (at_any LS.out nn)
        have hzl := atL_le s nn
        have hzz : (atL s nn).length ≤ 4194304 := by have h1 := SL.out.1; have h2 := SL.out.2; have := HSN.out.1; have := HSN.out.2; omega
        have HZZ := Lib.hid hzz
        obtain ⟨zs, HZS⟩ : ∃ z, Hid (atL s nn = z) := ⟨_, rfl⟩
        rw [HZS.out] at CA HZZ
        clear hzl hzz
        go_wp2_with fail
        refine CA.out.mono ?_; rintro e w6 ⟨lo, ln, lc, rfl, hL6, hO6, hB6'⟩
        have h6 := CC.out.h.madeS hO6 hB6' (10, 1, 0)
        have hB6 : Below base w w6 := CC.out.b.trans (hB6'.mono CC.out.h.base)
        have CB := Lib.hid (rat_any (SS.out _ hB6) nn)
        rw [HZS.out] at CB
        have hr6 := hL6.rng
        have HR6 := Lib.hid (And.intro hL6.big hr6)
        clear p1 p2 p3 p4 p5 p6 p7 p8 c0 hL6 hO6 hB6' hr6
        obtain ⟨p1, p2, p3, p4, p5, p6, p7, p8⟩ := X.out w6 _ h6 (fun t ht => updR_ne (fun e => by rw [e] at ht; cases ht))
        go_wp2_with fail
        refine CB.out.mono ?_; rintro e w7 ⟨mo7, mn7, mc7, rfl, hL7, hO7, hB7⟩
        have h7 := h6.madeS hO7 hB7 (11, 1, 0)
        have hbg := hL7.big
        have CE := Lib.hid (eqints_self (((h7.ls (t := (10, 1, 0)) ((updR_ne (by simp)).trans updR_eq) HR6.out.1 HR6.out.2).via (abal _ (.cells #[.slice lo ln lc] 25))).via (abal _ (.cells #[.slice mo7 mn7 mc7] 25))) ((hL7.via (abal _ (.cells #[.slice lo ln lc] 25))).via (abal _ (.cells #[.slice mo7 mn7 mc7] 25))))
        have HF := Lib.hid (fun k => lsP_one (R := R) h7 (lo := lo) (ln := ln) (lc := lc) (mo := mo7) (mn := mn7) (mc := mc7) (zs := zs) ((updR_ne (by simp)).trans updR_eq) updR_eq HZZ.out HR6.out.2 (fun t h7 h10 h11 => by rw [updR_ne (fun e => h11 (by rw [e])), updR_ne (fun e => h10 (by rw [e]))]; exact CC.out.n t h7) (hB6.trans (hB7.mono h6.base)) k)
        clear p1 p2 p3 p4 p5 p6 p7 p8 hL7 hO7 hB7 h6 h7 hB6 hbg
        go_wp2_with fail
        refine CE.out.mono ?_; rintro e w8 ⟨rfl, m8, rfl⟩
        go_wp2
        exact marks_ret0 (v := .tuple #[.slice (some ⟨w7.heap.size, 0, none⟩) 1 1, .slice (some ⟨w7.heap.size + 1, 0, none⟩) 1 1, .bool true]) rfl (by simp [results, Try.results15, go_sem, *]) (HF.out m8)
      by_cases k6 : kk = 6
      · subst k6
        have CA := Lib.hid (agree_any LS.out LT.out)
        have hzl := agL_le s t
        have hzz : (agL s t).length ≤ 4194304 := by have h1 := SL.out.1; have h2 := SL.out.2; have := HSN.out.1; have := HSN.out.2; omega
        have HZZ := Lib.hid hzz
        obtain ⟨zs, HZS⟩ : ∃ z, Hid (agL s t = z) := ⟨_, rfl⟩
        rw [HZS.out] at CA HZZ
        clear hzl hzz
        go_wp2_with fail
        refine CA.out.mono ?_; rintro e w6 ⟨lo, ln, lc, rfl, hL6, hO6, hB6'⟩
        have h6 := CC.out.h.madeS hO6 hB6' (10, 1, 0)
        have hB6 : Below base w w6 := CC.out.b.trans (hB6'.mono CC.out.h.base)
        have CB := Lib.hid (ragree_any (SS.out _ hB6) (TT.out _ hB6))
        rw [HZS.out] at CB
        have hr6 := hL6.rng
        have HR6 := Lib.hid (And.intro hL6.big hr6)
        clear p1 p2 p3 p4 p5 p6 p7 p8 c0 hL6 hO6 hB6' hr6
        obtain ⟨p1, p2, p3, p4, p5, p6, p7, p8⟩ := X.out w6 _ h6 (fun t ht => updR_ne (fun e => by rw [e] at ht; cases ht))
        go_wp2_with fail
        refine CB.out.mono ?_; rintro e w7 ⟨mo7, mn7, mc7, rfl, hL7, hO7, hB7⟩
        have h7 := h6.madeS hO7 hB7 (11, 1, 0)
        have hbg := hL7.big
        have CE := Lib.hid (eqints_self (((h7.ls (t := (10, 1, 0)) ((updR_ne (by simp)).trans updR_eq) HR6.out.1 HR6.out.2).via (abal _ (.cells #[.slice lo ln lc] 25))).via (abal _ (.cells #[.slice mo7 mn7 mc7] 25))) ((hL7.via (abal _ (.cells #[.slice lo ln lc] 25))).via (abal _ (.cells #[.slice mo7 mn7 mc7] 25))))
        have HF := Lib.hid (fun k => lsP_one (R := R) h7 (lo := lo) (ln := ln) (lc := lc) (mo := mo7) (mn := mn7) (mc := mc7) (zs := zs) ((updR_ne (by simp)).trans updR_eq) updR_eq HZZ.out HR6.out.2 (fun t h7 h10 h11 => by rw [updR_ne (fun e => h11 (by rw [e])), updR_ne (fun e => h10 (by rw [e]))]; exact CC.out.n t h7) (hB6.trans (hB7.mono h6.base)) k)
        clear p1 p2 p3 p4 p5 p6 p7 p8 hL7 hO7 hB7 h6 h7 hB6 hbg
        go_wp2_with fail
        refine CE.out.mono ?_; rintro e w8 ⟨rfl, m8, rfl⟩
        go_wp2
        exact marks_ret0 (v := .tuple #[.slice (some ⟨w7.heap.size, 0, none⟩) 1 1, .slice (some ⟨w7.heap.size + 1, 0, none⟩) 1 1, .bool true]) rfl (by simp [results, Try.results15, go_sem, *]) (HF.out m8)
      by_cases k7 : kk = 7
      · subst k7
        have CA := Lib.hid (cover_any LM.out)
        have hzl := cvR_le m
        have hzz : ((cvR m).1).length ≤ 4194304 := by have h1 := SL.out.1; have h2 := SL.out.2; have := HSN.out.1; have := HSN.out.2; omega
        have HZZ := Lib.hid hzz
        obtain ⟨zs, HZS⟩ : ∃ z, Hid ((cvR m).1 = z) := ⟨_, rfl⟩
        rw [HZS.out] at CA HZZ
        clear hzl hzz
        go_wp2_with fail
        refine CA.out.mono ?_; rintro e w6 ⟨lo, ln, lc, rfl, hL6, hO6, hB6'⟩
        have h6 := CC.out.h.madeS hO6 hB6' (10, 1, 0)
        have hB6 : Below base w w6 := CC.out.b.trans (hB6'.mono CC.out.h.base)
        have CB := Lib.hid (rcover_any (MM.out _ hB6))
        rw [HZS.out] at CB
        have hr6 := hL6.rng
        have HR6 := Lib.hid (And.intro hL6.big hr6)
        clear p1 p2 p3 p4 p5 p6 p7 p8 c0 hL6 hO6 hB6' hr6
        obtain ⟨p1, p2, p3, p4, p5, p6, p7, p8⟩ := X.out w6 _ h6 (fun t ht => updR_ne (fun e => by rw [e] at ht; cases ht))
        go_wp2_with fail
        refine CB.out.mono ?_; rintro e w7 ⟨mo7, mn7, mc7, rfl, hL7, hO7, hB7⟩
        have h7 := h6.madeS hO7 hB7 (11, 1, 0)
        have hbg := hL7.big
        have CE := Lib.hid (eqints_self (((h7.ls (t := (10, 1, 0)) ((updR_ne (by simp)).trans updR_eq) HR6.out.1 HR6.out.2).via (abal _ (.cells #[.slice lo ln lc] 25))).via (abal _ (.cells #[.slice mo7 mn7 mc7] 25))) ((hL7.via (abal _ (.cells #[.slice lo ln lc] 25))).via (abal _ (.cells #[.slice mo7 mn7 mc7] 25))))
        have HF := Lib.hid (fun k => lsP_one (R := R) h7 (lo := lo) (ln := ln) (lc := lc) (mo := mo7) (mn := mn7) (mc := mc7) (zs := zs) ((updR_ne (by simp)).trans updR_eq) updR_eq HZZ.out HR6.out.2 (fun t h7 h10 h11 => by rw [updR_ne (fun e => h11 (by rw [e])), updR_ne (fun e => h10 (by rw [e]))]; exact CC.out.n t h7) (hB6.trans (hB7.mono h6.base)) k)
        clear p1 p2 p3 p4 p5 p6 p7 p8 hL7 hO7 hB7 h6 h7 hB6 hbg
        go_wp2_with fail
        refine CE.out.mono ?_; rintro e w8 ⟨rfl, m8, rfl⟩
        go_wp2
        exact marks_ret0 (v := .tuple #[.slice (some ⟨w7.heap.size, 0, none⟩) 1 1, .slice (some ⟨w7.heap.size + 1, 0, none⟩) 1 1, .bool true]) rfl (by simp [results, Try.results15, go_sem, *]) (HF.out m8)
      by_cases k5 : kk = 5
      · subst k5
        have CA := Lib.hid (split_any LS.out nn NN.out)
        have CE0 : Hid (∀ i, -9223372036854775808 ≤ s.getD i 0 ∧ s.getD i 0 ≤ 9223372036854775807) := S0.out.rng
        have hz1 : (s.take (spN sn nn)).length ≤ 4194304 := by rw [List.length_take]; have h1 := SL.out.1; have := HSN.out.1; omega
        have hz2 : (s.drop (spN sn nn)).length ≤ 4194304 := by rw [List.length_drop]; have h1 := SL.out.1; have := HSN.out.1; omega
        have HZ12 := Lib.hid (And.intro hz1 hz2)
        clear hz1 hz2
        go_wp2_with fail
        refine CA.out.mono ?_; rintro e w6 ⟨a6, n6, c6, b6, m6, d6, rfl, hL61, hL62, hO61, hO62, hne6, hB6'⟩
        have h6 := CC.out.h.madeLL (t1 := (10, 1, 0)) (t2 := (10, 1, 1)) (by simp) hO61 hO62 hne6 hB6'
        have hB6 : Below base w w6 := CC.out.b.trans (hB6'.mono CC.out.h.base)
        have CB := Lib.hid (rsplit_any (SS.out _ hB6) nn NN.out)
        have HR6 := Lib.hid (And.intro (And.intro hL61.big hL61.rng) (And.intro hL62.big hL62.rng))
        clear p1 p2 p3 p4 p5 p6 p7 p8 c0 hL61 hL62 hO61 hO62 hne6 hB6'
        obtain ⟨p1, p2, p3, p4, p5, p6, p7, p8⟩ := X.out w6 _ h6 (fun t ht => (updR_ne (fun e => by rw [e] at ht; cases ht)).trans (updR_ne (fun e => by rw [e] at ht; cases ht)))
        go_wp2_with fail
        refine CB.out.mono ?_; rintro e w7 ⟨a7, n7, c7, b7, m7, d7, rfl, hL71, hL72, hO71, hO72, hne7, hB7⟩
        have h7 := h6.madeLL (t1 := (11, 1, 0)) (t2 := (11, 1, 1)) (by simp) hO71 hO72 hne7 hB7
        have hal : Below w7.heap.size w7 ((w7.alloc (.cells #[.slice a6 n6 c6, .slice b6 m6 d6] 25)).alloc (.cells #[.slice a7 n7 c7, .slice b7 m7 d7] 25)) := abvia (abal _ _) (abal _ _)
        have CE := Lib.hid (eqints_self (((h7.ls (t := (10, 1, 0)) ((updR_ne (by simp)).trans ((updR_ne (by simp)).trans ((updR_ne (by simp)).trans updR_eq))) HR6.out.1.1 HR6.out.1.2).via hal)) (hL71.via hal))
        have CF := Lib.hid (fun k => eqints_self (((h7.ls (t := (10, 1, 1)) ((updR_ne (by simp)).trans ((updR_ne (by simp)).trans updR_eq)) HR6.out.2.1 HR6.out.2.2).via hal).drew k) ((hL72.via hal).drew k))
        have HF := Lib.hid (fun k => lsP_two (R := R) h7 (lo := a6) (ln := n6) (lc := c6) (mo := a7) (mn := n7) (mc := c7) (zs := s.take (spN sn nn)) (lo' := b6) (ln' := m6) (lc' := d6) (mo' := b7) (mn' := m7) (mc' := d7) (zs' := s.drop (spN sn nn)) ((updR_ne (by simp)).trans ((updR_ne (by simp)).trans ((updR_ne (by simp)).trans updR_eq))) ((updR_ne (by simp)).trans updR_eq) ((updR_ne (by simp)).trans ((updR_ne (by simp)).trans updR_eq)) updR_eq HZ12.out.1 HR6.out.1.2 HZ12.out.2 HR6.out.2.2
          (fun t h7 h10 h11 => by rw [updR_ne (fun e => h11 (by rw [e])), updR_ne (fun e => h11 (by rw [e])), updR_ne (fun e => h10 (by rw [e])), updR_ne (fun e => h10 (by rw [e]))]; exact CC.out.n t h7) (hB6.trans (hB7.mono h6.base)) k)
        clear p1 p2 p3 p4 p5 p6 p7 p8 hL71 hL72 hO71 hO72 hne7 hB7 h6 h7 hB6 hal
        go_wp2_with fail
        refine CE.out.mono ?_; rintro e w8 ⟨rfl, m8, rfl⟩
        go_wp2_with fail
        refine (CF.out _).mono ?_; rintro e w9 ⟨rfl, m9, rfl⟩
        go_wp2
        exact marks_ret0 (v := .tuple #[.slice (some ⟨w7.heap.size, 0, none⟩) 2 2, .slice (some ⟨w7.heap.size + 1, 0, none⟩) 2 2, .bool true]) rfl (by simp [results, Try.results15, go_sem, *]) (HF.out (m8 + m9))
      by_cases k8 : kk = 8
      · subst k8
        obtain ⟨W5, HW5⟩ : ∃ z, Hid ((wr.alloc (.cells #[.slice none 0 0] 29)).alloc (.cells #[.slice none 0 0] 29) = z) := ⟨_, rfl⟩
        have h5 := (CC.out.h.alloc (10, 2, 0) (cs := #[.slice none 0 0]) (E := 29) (sz := 1) (n := 1) rfl (by decide)).alloc (11, 2, 0) (cs := #[.slice none 0 0]) (E := 29) (sz := 1) (n := 1) rfl (by decide)
        rw [HW5.out] at h5
        simp only [World.size_alloc] at h5
        have hB5 : Below base w W5 := by rw [← HW5.out]; exact CC.out.b.trans ((abvia (abal _ _) (abal _ _)).mono CC.out.h.base)
        have hal : Below wr.heap.size wr W5 := by rw [← HW5.out]; exact abvia (abal _ _) (abal _ _)
        obtain ⟨gb, HGB⟩ : ∃ z, Hid (wr.heap.size = z) := ⟨_, rfl⟩
        rw [HGB.out] at h5
        have CA := Lib.hid (all_hold h5 (LS.out.via hal))
        have p5' : ((wr.alloc (.cells #[.slice none 0 0] 29)).alloc (.cells #[.slice none 0 0] 29)).cell? ⟨b2, 1, none⟩ = some (.slice so sn sd) := by rw [HW5.out]; exact (X.out W5 _ h5 (fun t ht => (updR_ne (fun e => by rw [e] at ht; cases ht)).trans (updR_ne (fun e => by rw [e] at ht; cases ht)))).2.2.2.2.1
        obtain ⟨R5, HR5⟩ : ∃ z, Hid (updR (updR R1 (10, 2, 0) ⟨29, 1, some ⟨gb, 0, none⟩, 1, 1, #[.slice none 0 0].toList⟩) (11, 2, 0) ⟨29, 1, some ⟨gb + 1, 0, none⟩, 1, 1, #[.slice none 0 0].toList⟩ = z) := ⟨_, rfl⟩
        rw [HR5.out] at CA
        have e510 : Hid (R5 (10, 2, 0) = ⟨29, 1, some ⟨gb, 0, none⟩, 1, 1, [.slice none 0 0]⟩) := by show _ = _; rw [← HR5.out, updR_ne (by simp), updR_eq]
        have e511 : Hid (R5 (11, 2, 0) = ⟨29, 1, some ⟨gb + 1, 0, none⟩, 1, 1, [.slice none 0 0]⟩) := by show _ = _; rw [← HR5.out, updR_eq]
        have e5N : Hid (∀ t, t ≠ (10, 2, 0) → t ≠ (11, 2, 0) → R5 t = R1 t) := fun t h1 h2 => by rw [← HR5.out, updR_ne h2, updR_ne h1]
        have HB5 := Lib.hid hB5
        clear p1 p2 p3 p4 p5 p6 p7 p8 h5 hal hB5
        go_wp2_with fail
        rw [HW5.out]
        refine CA.out.mono ?_; rintro e w6 ⟨bn, bs, qo, qn, qc, R6, rfl, h6, s1, s2, s3, sN, hB6⟩
        simp only [seqV]
        clear p5'
        have hbd := szE_bd s
        obtain ⟨N, hN⟩ : ∃ N : Nat, szE s = N := ⟨(szE s).toNat, by omega⟩
        have HN := Lib.hid hN
        have HN4 : Hid (N ≤ 4096) := by show _ ≤ _; omega
        have HPK : Hid (∀ k : Nat, k < N → mayE s = 0 ∧ (k : Int) < pr s) := fun k hk => by
          obtain ⟨h1, h2⟩ := szE_pos HN.out (by omega)
          exact ⟨h1, by omega⟩
        have hB6w : Below base w w6 := HB5.out.trans hB6
        have hI0 : LvI base w R R6 s gb 0 w6 := by
          refine ⟨updR (updR R6 (10, 0, 0) ⟨25, 1, none, 0, 0, []⟩) (11, 0, 0) ⟨25, 1, none, 0, 0, []⟩, none, none, 0, 0, ⟨(h6.add (10, 0, 0) (r := ⟨25, 1, none, 0, 0, []⟩) (World.ownsRow_nil _ _ _ _) (fun s _ g hg => by cases hg)).add (11, 0, 0) (r := ⟨25, 1, none, 0, 0, []⟩) (World.ownsRow_nil _ _ _ _) (fun s _ g hg => by cases hg), ?_, ?_, ?_, ?_, fun j hj => absurd hj (Nat.not_lt_zero _), fun t ht => ?_, fun t h7 h10 h11 => ?_, hB6w⟩⟩
          · rw [updR_ne (by simp), updR_ne (by simp), sN _ (by simp) (by simp) (by simp)]; exact e510.out
          · rw [updR_ne (by simp), updR_ne (by simp), sN _ (by simp) (by simp) (by simp)]; exact e511.out
          · rw [updR_ne (by simp), updR_eq]; rfl
          · rw [updR_eq]; rfl
          · rw [updR_ne (fun e => by rw [e] at ht; cases ht), updR_ne (fun e => by rw [e] at ht; cases ht)]
          · rw [updR_ne (fun e => h11 (by rw [e])), updR_ne (fun e => h10 (by rw [e])), sN t (fun e => h7 (by rw [e])) (fun e => h7 (by rw [e])) (fun e => h7 (by rw [e])), e5N.out t (fun e => h10 (by rw [e])) (fun e => h11 (by rw [e]))]
            exact CC.out.n t h7
        have HI0 := Lib.hid hI0
        have R67 : Hid (∀ t, t ≠ (7, 1, 0) → t ≠ (7, 2, 0) → t ≠ (7, 3, 0) → t.1 = 7 → R6 t = R1 t) := fun t q1 q2 q3 ht => (sN t q1 q2 q3).trans (e5N.out t (fun e => by rw [e] at ht; cases ht) (fun e => by rw [e] at ht; cases ht))
        have HSQ : Hid (∀ k W, LvI base w R R6 s gb k W → SeqAt W bn bs qo qn qc s) := fun k W ⟨Rk, go, wo, gc, wc, h⟩ => seqAt_hold h.h ((h.q _ rfl).trans s1) ((h.q _ rfl).trans s2) ((h.q _ rfl).trans s3) (by rw [S0.out.len]; exact S0.out.big) S0.out.rng
        have HBS : Hid (base ≤ w6.heap.size) := h6.base
        clear h6 s1 s2 s3 sN hB6 hB6w hI0 hbd hN
        have HXR : Hid (∀ k W Rk go wo gc wc, LvF base w R R6 s gb k W Rk go wo gc wc → W.cell? ⟨b1, 1, none⟩ = some (.slice sa sn sc) ∧ W.cell? ⟨b2, 3, none⟩ = some (.int .i64 nn) ∧ W.cell? ⟨gb, 0, none⟩ = some (.slice go k gc) ∧ W.frozen? ⟨gb, 0, none⟩ = false ∧ W.cell? ⟨gb + 1, 0, none⟩ = some (.slice wo k wc) ∧ W.frozen? ⟨gb + 1, 0, none⟩ = false) := fun k W Rk go wo gc wc h =>
          ⟨h.h.cell (((h.q _ rfl).trans (R67.out _ (by simp) (by simp) (by simp) rfl)).trans CC.out.x1) 1 _ rfl, h.h.cell (((h.q _ rfl).trans (R67.out _ (by simp) (by simp) (by simp) rfl)).trans CC.out.x2) 3 _ rfl, h.h.cell h.x1 0 _ rfl, h.h.frozen h.x1 0, h.h.cell h.x2 0 _ rfl, h.h.frozen h.x2 0⟩
        have HGE := HGB.out
        go_wp2_with fail
        rw [HGE]
        refine (wpIn_wide (n := 6)).1 ?_
        refine wpIn_range_own (n := 6) (by omega) (gf := 96) (lb := #[.pointer (some ⟨bn, 0, none⟩), .pointer (some ⟨bs, 0, none⟩)]) rfl (enters_of Try.func96 (by kernel_rfl) rfl) rndV (fun _ => rfl) (LvG base w R R6 s gb) N (LvI base w R R6 s gb)
          (LvI base w R R6 s gb) (fun c W => c = .exit 3 ∧ ∃ k, k ≤ N ∧ LvI base w R R6 s gb k W) ?bI ?bX ?bG (fun k W h => h) HI0.out
          (fun l J Jx W hK hJ hY h0 => allseq_own HN.out 5 l (by omega) J Jx W (LvI base w R R6 s gb) (LvG base w R R6 s gb) HSQ.out ?gd hK hJ hY h0) ?a1 ?assign ?body ?done ?stop
        case bI => exact fun k W W' row ⟨Rk, go, wo, gc, wc, h⟩ hg hr => ⟨Rk, go, wo, gc, wc, lvF_bears h HBS.out hg hr⟩
        case bX => exact fun c W W' row ⟨hc, k, hk, Rk, go, wo, gc, wc, h⟩ hg hr => ⟨hc, k, hk, Rk, go, wo, gc, wc, lvF_bears h HBS.out hg hr⟩
        case bG => exact fun k x W W' row ⟨hx, Rk, go, wo, gc, wc, h, e⟩ hg hr => ⟨hx, Rk, go, wo, gc, wc, lvF_bears h HBS.out hg hr, e⟩
        case gd =>
          rintro k x W0 W1 hk ⟨Rk, go, wo, gc, wc, h⟩ hx hL hO hB
          refine ⟨hx, updR Rk (10, 1, k) (lsR x.2.1 x.2.2.1 x.2.2.2 (ixL s k)), go, wo, gc, wc, ⟨h.h.madeS hO hB (10, 1, k), ?_, ?_, ?_, ?_, fun j hj => ?_, fun t ht => ?_, fun t h7 h10 h11 => ?_, h.b.trans (hB.mono h.h.base)⟩, updR_eq⟩
          · rw [updR_ne (by simp)]; exact h.x1
          · rw [updR_ne (by simp)]; exact h.x2
          · rw [updR_ne (by simp), h.l1]; congr 1; exact List.map_congr_left fun j hj => by rw [updR_ne (by simp; have := List.mem_range.1 hj; omega)]
          · rw [updR_ne (by simp), h.l2]; congr 1; try exact List.map_congr_left fun j hj => by rw [updR_ne (by simp)]
          · obtain ⟨x1, x2, y1, y2, y3, y4, z1, z2⟩ := h.e j hj
            exact ⟨x1, x2, y1, y2, y3, y4, by rw [updR_ne (by simp; omega)]; exact z1, by rw [updR_ne (by simp)]; exact z2⟩
          · rw [updR_ne (fun e => by rw [e] at ht; cases ht)]; exact h.q t ht
          · rw [updR_ne (fun e => h10 (by rw [e]))]; exact h.n t h7 h10 h11
        case assign =>
          intro l x W K hK
          simp [rndV]
          gi_wp2
          exact hK
        case body =>
          intro l k x W hkN hI hx
          obtain ⟨hx1, Rk, go, wo, gc, wc, h, e1⟩ := hx
          obtain ⟨x1, xo, xn, xc⟩ := x
          simp only at hx1 e1
          have hx1' := hx1.symm
          subst hx1'
          obtain ⟨hm0, hpk⟩ := HPK.out k hkN
          have CA := Lib.hid (rat_any (SS.out W h.b) k)
          rw [show atL s k = ixL s k by rw [atL, if_pos ⟨hm0, by omega, hpk⟩]] at CA
          obtain ⟨y1, y2, y3, y4, y5, y6⟩ := HXR.out k W Rk go wo gc wc h
          have H := Lib.hid h
          have E1 := Lib.hid e1
          have hk4 : k < 4096 := by have := HN4.out; omega
          obtain ⟨ev, HEV⟩ : ∃ z, Hid (atE s k = z) := ⟨_, rfl⟩
          rw [HEV.out] at CA
          clear h e1 hI hm0 hpk hx1
          gi_wp2_with fail
          refine ⟨trivial, (CallsIn.inRound l (callsIn_wide.2 CA.out)).mono ?_⟩; rintro e' v1 ⟨mo1, mn1, mc1, rfl, hL1, hO1, hB1⟩
          have hh1 := H.out.h.madeS hO1 hB1 (11, 1, k)
          have hKO1 : KeepsOthers W v1 := keeps_of_below hB1
          have hBa := H.out.b.trans (hB1.mono H.out.h.base)
          obtain ⟨R2, HR2⟩ : ∃ z, Hid (updR Rk (11, 1, k) (lsR mo1 mn1 mc1 (ixL s k)) = z) := ⟨_, rfl⟩
          have hh1' : Hold base v1 (updR Rk (11, 1, k) (lsR mo1 mn1 mc1 (ixL s k))) := hh1
          rw [HR2.out] at hh1'
          have u1 : Hid (R2 (10, 2, 0) = ⟨29, 1, some ⟨gb, 0, none⟩, 1, 1, [.slice go k gc]⟩) := by show _ = _; rw [← HR2.out, updR_ne (by simp)]; exact H.out.x1
          have u2 : Hid (R2 (11, 2, 0) = ⟨29, 1, some ⟨gb + 1, 0, none⟩, 1, 1, [.slice wo k wc]⟩) := by show _ = _; rw [← HR2.out, updR_ne (by simp)]; exact H.out.x2
          have u3 : Hid (R2 (10, 0, 0) = ⟨25, 1, go, k, gc, (List.range k).map fun j => (Rk (10, 1, j)).v⟩) := by show _ = _; rw [← HR2.out, updR_ne (by simp)]; exact H.out.l1
          have u4 : Hid (R2 (11, 0, 0) = ⟨25, 1, wo, k, wc, (List.range k).map fun j => (Rk (11, 1, j)).v⟩) := by show _ = _; rw [← HR2.out, updR_ne (by simp)]; exact H.out.l2
          have u5 : Hid (R2 (7, 5, 0) = ⟨37, 5, some ⟨b2, 0, none⟩, 1, 1, [.int .i64 8, .slice so sn sd, .slice tto tn td, .int .i64 nn, .slice mo i md]⟩) := by show _ = _; rw [← HR2.out, updR_ne (by simp)]; exact ((H.out.q _ rfl).trans (R67.out _ (by simp) (by simp) (by simp) rfl)).trans CC.out.x2
          have HV1 := Lib.hid hh1'
          have HK1 := Lib.hid hKO1
          have HBa := Lib.hid hBa
          have z3 := HV1.out.cell u1.out 0 _ rfl
          have hne1 : ¬ gb + 1 = b2 := fun e => HV1.out.dis (11, 2, 0) (7, 5, 0) (by simp) (gb + 1) (by rw [u2.out]; rfl) (by rw [u5.out, e]; rfl)
          have hne2 : ¬ b2 = gb + 1 := fun e => hne1 e.symm
          have hne3 : ¬ gb = b2 := fun e => HV1.out.dis (10, 2, 0) (7, 5, 0) (by simp) gb (by rw [u1.out]; rfl) (by rw [u5.out, e]; rfl)
          have hne4 : ¬ b2 = gb := fun e => hne3 e.symm
          obtain ⟨i1, hi1, hz01, hz11, hz21⟩ := info_parts (P := Try.prog) (e := 25) (z := .slice none 0 0) (size := 1) (bytes := 24) (by kernel_rfl)
          have hmx : k + 1 ≤ maxLen := by unfold maxLen; omega
          have hbyt : (k + 1) * 24 ≤ 140737488355328 := by omega
          have HA1 := Lib.hid (hh1'.via (abal v1 (.cells #[.slice xo xn xc] 25)))
          have N1 : Hid (∀ (j : Nat) (u : Value), [Value.slice xo xn xc][j]? = some u → (v1.alloc (.cells #[.slice xo xn xc] 25)).cell? (Addr.add ⟨v1.heap.size, 0, none⟩ j) = some u) := by
            intro j u hj
            cases j with
            | zero => simp at hj; subst hj; simp [go_sem]
            | succ j => simp at hj
          clear hO1 hB1 hL1 hh1 hh1' hKO1 hBa y1 y2 y3 y4 y5 y6
          gi_wp2_with (gi_at_builtin; refine Hold.wpListIn_app HA1.out rfl _ _ 29 rfl (10, 0, 0) 25 i1 (.slice none 0 0) 1 24 Try.underlying29 hi1 hz01 hz11 hz21 rfl (by decide) u3.out rfl ⟨v1.heap.size, 0, none⟩ 1 1 rfl [.slice xo xn xc] rfl N1.out (by intro u hu; simp at hu; subst hu; rfl) hmx hbyt ?_)
          intro go' gc' v2 hH2 hB2 hK2
          have z4 := hH2.cell ((updR_ne (by simp)).trans u1.out) 0 _ rfl
          have z5 := hH2.frozen ((updR_ne (by simp)).trans u1.out) 0
          have z6 := hH2.cell ((updR_ne (by simp)).trans u2.out) 0 _ rfl
          have hP2 := hH2.put ((updR_ne (by simp)).trans u1.out) 0 (.slice go' (k + 1) gc')
          have hBb : Below base w (v2.setCell ⟨gb, 0, none⟩ (.slice go' (k + 1) gc')) := HBa.out.trans ((((abal v1 (.cells #[.slice xo xn xc] 25)).mono HV1.out.base).trans hB2).trans (hH2.putB ((updR_ne (by simp)).trans u1.out) 0 _))
          have hKO2 : KeepsOthers W (v2.setCell ⟨gb, 0, none⟩ (.slice go' (k + 1) gc')) := ((HK1.out.trans (keeps_of_below (abal v1 (.cells #[.slice xo xn xc] 25)))).trans hK2).trans (KeepsOthers.setCell _ _ _)
          obtain ⟨R3, HR3⟩ : ∃ z, Hid (updR (updR R2 (10, 0, 0) ⟨25, 1, go', k + 1, gc', ((List.range k).map fun j => (Rk (10, 1, j)).v) ++ [Value.slice xo xn xc]⟩) (10, 2, 0) ⟨29, 1, some ⟨gb, 0, none⟩, 1, 1, [.slice go' (k + 1) gc']⟩ = z) := ⟨_, rfl⟩
          have hP2' : Hold base (v2.setCell ⟨gb, 0, none⟩ (.slice go' (k + 1) gc')) (updR (updR R2 (10, 0, 0) ⟨25, 1, go', k + 1, gc', ((List.range k).map fun j => (Rk (10, 1, j)).v) ++ [Value.slice xo xn xc]⟩) (10, 2, 0) ⟨29, 1, some ⟨gb, 0, none⟩, 1, 1, [.slice go' (k + 1) gc']⟩) := hP2
          rw [HR3.out] at hP2'
          have w2 : Hid (R3 (11, 2, 0) = ⟨29, 1, some ⟨gb + 1, 0, none⟩, 1, 1, [.slice wo k wc]⟩) := by show _ = _; rw [← HR3.out, updR_ne (by simp), updR_ne (by simp)]; exact u2.out
          have w1' : Hid (R3 (10, 2, 0) = ⟨29, 1, some ⟨gb, 0, none⟩, 1, 1, [.slice go' (k + 1) gc']⟩) := by show _ = _; rw [← HR3.out, updR_eq]
          have w4 : Hid (R3 (11, 0, 0) = ⟨25, 1, wo, k, wc, (List.range k).map fun j => (Rk (11, 1, j)).v⟩) := by show _ = _; rw [← HR3.out, updR_ne (by simp), updR_ne (by simp)]; exact u4.out
          have w5 : Hid (R3 (7, 5, 0) = ⟨37, 5, some ⟨b2, 0, none⟩, 1, 1, [.int .i64 8, .slice so sn sd, .slice tto tn td, .int .i64 nn, .slice mo i md]⟩) := by show _ = _; rw [← HR3.out, updR_ne (by simp), updR_ne (by simp)]; exact u5.out
          have HA2 := Lib.hid (hP2'.via (abal (v2.setCell ⟨gb, 0, none⟩ (.slice go' (k + 1) gc')) (.cells #[.slice mo1 mn1 mc1] 25)))
          have HP2 := Lib.hid hP2'
          have HBb := Lib.hid hBb
          have HK2 := Lib.hid hKO2
          have N2 : Hid (∀ (j : Nat) (u : Value), [Value.slice mo1 mn1 mc1][j]? = some u → ((v2.setCell ⟨gb, 0, none⟩ (.slice go' (k + 1) gc')).alloc (.cells #[.slice mo1 mn1 mc1] 25)).cell? (Addr.add ⟨(v2.setCell ⟨gb, 0, none⟩ (.slice go' (k + 1) gc')).heap.size, 0, none⟩ j) = some u) := by
            intro j u hj
            cases j with
            | zero => simp at hj; subst hj; simp [go_sem]
            | succ j => simp at hj
          have HSZ2 : (v2.setCell ⟨gb, 0, none⟩ (.slice go' (k + 1) gc')).heap.size = v2.heap.size := by simp
          rw [HSZ2] at N2
          clear HSZ2
          clear hH2 hB2 hK2 hP2 hP2' hBb hKO2 z3
          gi_wp2_with (gi_at_builtin; refine Hold.wpListIn_app HA2.out rfl _ _ 29 rfl (11, 0, 0) 25 i1 (.slice none 0 0) 1 24 Try.underlying29 hi1 hz01 hz11 hz21 rfl (by decide) w4.out rfl ⟨v2.heap.size, 0, none⟩ 1 1 rfl [.slice mo1 mn1 mc1] rfl N2.out (by intro u hu; simp at hu; subst hu; rfl) hmx hbyt ?_)
          intro wo' wc' v3 hH3 hB3 hK3
          have z7 := hH3.cell ((updR_ne (by simp)).trans w2.out) 0 _ rfl
          have z8 := hH3.frozen ((updR_ne (by simp)).trans w2.out) 0
          have z9 := hH3.cell ((updR_ne (by simp)).trans w1'.out) 0 _ rfl
          have z10 := hH3.cell ((updR_ne (by simp)).trans w5.out) 3 _ rfl
          have hP3 := hH3.put ((updR_ne (by simp)).trans w2.out) 0 (.slice wo' (k + 1) wc')
          have hBc : Below base w (v3.setCell ⟨gb + 1, 0, none⟩ (.slice wo' (k + 1) wc')) := HBb.out.trans ((((abal (v2.setCell ⟨gb, 0, none⟩ (.slice go' (k + 1) gc')) (.cells #[.slice mo1 mn1 mc1] 25)).mono HP2.out.base).trans hB3).trans (hH3.putB ((updR_ne (by simp)).trans w2.out) 0 _))
          have HKO3 : Hid (KeepsOthers W (v3.setCell ⟨gb + 1, 0, none⟩ (.slice wo' (k + 1) wc'))) := ((HK2.out.trans (keeps_of_below (abal _ (.cells #[.slice mo1 mn1 mc1] 25)))).trans hK3).trans (KeepsOthers.setCell _ _ _)
          have HL : Hid (LvI base w R R6 s gb (k + 1) (v3.setCell ⟨gb + 1, 0, none⟩ (.slice wo' (k + 1) wc'))) := ⟨_, go', wo', gc', wc', H.out.more E1.out HR2.out.symm HR3.out.symm rfl hP3 hBc⟩
          clear hH3 hB3 hK3 hP3 hBc z4 z5 z6
          have hkN1 : k + 1 ≤ N := hkN
          by_cases c1 : (k : Int) + 1 = 40
          · have c1' : ((k : Int) + 1 == 40) = true := by simpa using c1
            gi_wp2_with fail
            exact ⟨HKO3.out, rfl, k + 1, hkN1, HL.out⟩
          · have c1' : ((k : Int) + 1 == 40) = false := by simpa using c1
            by_cases c2 : (k : Int) + 1 = nn
            · have c2' : ((k : Int) + 1 == nn) = true := by simpa using c2
              gi_wp2_with fail
              exact ⟨HKO3.out, rfl, k + 1, hkN1, HL.out⟩
            · have c2' : ((k : Int) + 1 == nn) = false := by simpa using c2
              gi_wp2_with fail
              exact ⟨HKO3.out, HL.out⟩
        case done =>
          rintro D W hD hI hKD
          obtain ⟨k, hkk⟩ : ∃ k, k = N := ⟨N, rfl⟩
          rw [← hkk] at hI
          have hkN : k ≤ N := by omega
          clear hkk
          obtain ⟨go, wo, gc, wc, y1, y2, y3⟩ := lvI_lsP hI (Nat.le_trans hkN HN4.out) (by rw [S0.out.len]; exact HSN.out.1) (fun j hj => by obtain ⟨h1, h2⟩ := HPK.out j (by omega); exact ix_rng h1 h2 S0.out.rng)
          have hDW : D < W.heap.size := (Array.getElem?_eq_some_iff.1 hKD).1
          have HD' := Lib.hid hD
          have HKD := Lib.hid hKD
          have HI := Lib.hid hI
          have HY := Lib.hid y3
          clear hI hKD y3 hD
          go_wp2_with fail
          go_quiet (fail)
          have hK' : (W.drewN nq).heap[D]? = some (.deferred (some [])) := HKD.out
          have HF : Hid (LsP base w R (.returned (.tuple #[.slice go k gc, .slice wo k wc, .bool true])) ((W.drewN nq).putObj D (.deferred none))) := by
            refine HY.out _ ?_
            obtain ⟨Rk, go1, wo1, gc1, wc1, h⟩ := HI.out
            have e1 := h.h.cell h.x1 0 _ rfl
            have e2 := h.h.cell h.x2 0 _ rfl
            rw [y1] at e1
            rw [y2] at e2
            simp only [Option.some.injEq, Value.slice.injEq, true_and] at e1 e2
            obtain ⟨rfl, rfl⟩ := e1
            obtain ⟨rfl, rfl⟩ := e2
            have hd : LvF base w R R6 s gb k (W.drewN nq) Rk go wo gc wc := ⟨h.h.via (adrew _ _), h.x1, h.x2, h.l1, h.l2, h.e, h.q, h.n, h.b.trans ((adrew _ _).mono h.h.base)⟩
            exact ⟨Rk, lvF_bears hd (Nat.le_refl base) (grownBy_putObj' _ D (.deferred none)) (fun r e => by cases e; exact ⟨Nat.le_trans HBS.out HD'.out, _, hK', rfl⟩)⟩
          go_wp2_with fail
          exact marks_ret1 (v := .tuple #[.slice go k gc, .slice wo k wc, .bool true]) rfl hK' (by simp [results, Try.results15, go_sem, *]) HF.out
        case stop =>
          rintro D c W hD ⟨hc, k, hkN, hI⟩ hKD
          subst hc
          obtain ⟨go, wo, gc, wc, y1, y2, y3⟩ := lvI_lsP hI (Nat.le_trans hkN HN4.out) (by rw [S0.out.len]; exact HSN.out.1) (fun j hj => by obtain ⟨h1, h2⟩ := HPK.out j (by omega); exact ix_rng h1 h2 S0.out.rng)
          have hDW : D < W.heap.size := (Array.getElem?_eq_some_iff.1 hKD).1
          have HD' := Lib.hid hD
          have HKD := Lib.hid hKD
          have HI := Lib.hid hI
          have HY := Lib.hid y3
          clear hI hKD y3 hD
          refine (wpIn_wide (n := 6)).2 ?_
          go_wp2_with fail
          go_quiet (fail)
          have hK' : (W.drewN nq).heap[D]? = some (.deferred (some [])) := HKD.out
          have HF : Hid (LsP base w R (.returned (.tuple #[.slice go k gc, .slice wo k wc, .bool true])) ((W.drewN nq).putObj D (.deferred none))) := by
            refine HY.out _ ?_
            obtain ⟨Rk, go1, wo1, gc1, wc1, h⟩ := HI.out
            have e1 := h.h.cell h.x1 0 _ rfl
            have e2 := h.h.cell h.x2 0 _ rfl
            rw [y1] at e1
            rw [y2] at e2
            simp only [Option.some.injEq, Value.slice.injEq, true_and] at e1 e2
            obtain ⟨rfl, rfl⟩ := e1
            obtain ⟨rfl, rfl⟩ := e2
            have hd : LvF base w R R6 s gb k (W.drewN nq) Rk go wo gc wc := ⟨h.h.via (adrew _ _), h.x1, h.x2, h.l1, h.l2, h.e, h.q, h.n, h.b.trans ((adrew _ _).mono h.h.base)⟩
            exact ⟨Rk, lvF_bears hd (Nat.le_refl base) (grownBy_putObj' _ D (.deferred none)) (fun r e => by cases e; exact ⟨Nat.le_trans HBS.out HD'.out, _, hK', rfl⟩)⟩
          go_wp2_with fail
          exact marks_ret1 (v := .tuple #[.slice go k gc, .slice wo k wc, .bool true]) rfl hK' (by simp [results, Try.results15, go_sem, *]) HF.out
      · have q4 : (kk == 4) = false := by simpa using k4
        have q5 : (kk == 5) = false := by simpa using k5
        have q6 : (kk == 6) = false := by simpa using k6
        have q7 : (kk == 7) = false := by simpa using k7
        have q8 : (kk == 8) = false := by simpa using k8
        have h7 := (CC.out.h.add (10, 1, 0) (r := lsR none 0 0 []) (World.ownsRow_nil _ _ _ _) (fun s _ g hg => by cases hg)).add (11, 1, 0) (r := lsR none 0 0 []) (World.ownsRow_nil _ _ _ _) (fun s _ g hg => by cases hg)
        have CE := Lib.hid (eqints_self (Ls.zero ((wr.alloc (.cells #[.slice none 0 0] 25)).alloc (.cells #[.slice none 0 0] 25)) none (Nat.zero_le _ : 0 ≤ maxLen)) (Ls.zero _ none (Nat.zero_le _ : 0 ≤ maxLen)))
        have HF := Lib.hid (fun k => lsP_one (R := R) h7 (lo := none) (ln := 0) (lc := 0) (mo := none) (mn := 0) (mc := 0) (zs := []) ((updR_ne (by simp)).trans updR_eq) updR_eq (by simp) (fun i => by simp [List.getD]) (fun t h7 h10 h11 => by rw [updR_ne (fun e => h11 (by rw [e])), updR_ne (fun e => h10 (by rw [e]))]; exact CC.out.n t h7) CC.out.b k)
        clear p1 p2 p3 p4 p5 p6 p7 p8 h7 k4 k5 k6 k7 k8
        go_wp2_with fail
        refine CE.out.mono ?_; rintro e w8 ⟨rfl, m8, rfl⟩
        go_wp2
        exact marks_ret0 (v := .tuple #[.slice (some ⟨wr.heap.size, 0, none⟩) 1 1, .slice (some ⟨wr.heap.size + 1, 0, none⟩) 1 1, .bool true]) rfl (by simp [results, Try.results15, go_sem, *]) (HF.out m8)
end
end Go.Proofs.Ytdedbfbkakofgaa

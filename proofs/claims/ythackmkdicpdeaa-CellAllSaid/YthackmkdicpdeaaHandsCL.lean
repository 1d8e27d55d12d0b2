/- The hands of layer 4: list and listKept. -/
import Derived.Test.YthackmkdicpdeaaHandsC
import Derived.Test.YthackmkdicpdeaaHands
import Derived.Test.YthackmkdicpdeaaRegHd
import Derived.Test.YthackmkdicpdeaaEqCells
namespace Go.Proofs.Ythackmkdicpdeaa
open Go.RowKit Go.Lib
set_option linter.unusedVariables false
set_option linter.unusedSimpArgs false
attribute [local go_sem] alloc_drewN setCell_drewN
/-- Pairs of values in a row. -/
def pairL (m : Nat) (a b : Nat → Value) : List Value := (List.range m).flatMap fun k => [a k, b k]
theorem pairL_succ (m : Nat) (a b : Nat → Value) : pairL (m + 1) a b = pairL m a b ++ [a m, b m] := by
  simp [pairL, List.range_succ, List.flatMap_append]
theorem pairL_len (m : Nat) (a b : Nat → Value) : (pairL m a b).length = m * 2 := by
  induction m with
  | zero => rfl
  | succ m ih => rw [pairL_succ, List.length_append, ih]; simp; omega
theorem pairL_at {m i : Nat} (a b : Nat → Value) (h : i < m) : (pairL m a b)[i * 2]? = some (a i) ∧ (pairL m a b)[i * 2 + 1]? = some (b i) := by
  induction m with
  | zero => omega
  | succ m ih =>
    rw [pairL_succ]
    by_cases e : i = m
    · subst e
      rw [List.getElem?_append_right (by rw [pairL_len]; omega), List.getElem?_append_right (by rw [pairL_len]; omega), pairL_len, Nat.sub_self, Nat.add_sub_cancel_left]
      exact ⟨rfl, rfl⟩
    · rw [List.getElem?_append_left (by rw [pairL_len]; omega), List.getElem?_append_left (by rw [pairL_len]; omega)]
      exact ih (by omega)
theorem pairL_congr {m : Nat} {a b a' b' : Nat → Value} (h : ∀ k, k < m → a k = a' k ∧ b k = b' k) : pairL m a b = pairL m a' b' := by
  induction m with
  | zero => rfl
  | succ m ih => rw [pairL_succ, pairL_succ, ih fun k hk => h k (by omega), (h m (by omega)).1, (h m (by omega)).2]
theorem pairL_set {m i : Nat} (a b : Nat → Value) (x y : Value) (h : i < m) : ((pairL m a b).set (i * 2 + 1) y).set (i * 2) x = pairL m (fun k => if k = i then x else a k) (fun k => if k = i then y else b k) := by
  induction m with
  | zero => omega
  | succ m ih =>
    rw [pairL_succ, pairL_succ]
    by_cases e : i = m
    · subst e
      rw [List.set_append_right _ _ (by rw [pairL_len]; omega), List.set_append_right _ _ (by rw [pairL_len]; omega), pairL_len, Nat.sub_self, Nat.add_sub_cancel_left]
      simp only [if_true]
      congr 1
      exact pairL_congr fun k hk => by rw [if_neg (by omega), if_neg (by omega)]; exact ⟨rfl, rfl⟩
    · rw [List.set_append_left _ _ (by rw [pairL_len]; omega), List.set_append_left _ _ (by rw [List.length_set, pairL_len]; omega), ih (by omega), if_neg (fun h => e h.symm), if_neg (fun h => e h.symm)]
/-- All rows are kept but the hands' own, the many hands and the outer row. -/
def KeepC (R R' : Rws) : Prop := ∀ t : Nat × Nat × Nat, t ≠ (0, 0, 0) → t ≠ (0, 4, 0) → t ≠ (0, 5, 0) → t.1 ≠ 1 → t.1 ≠ 2 → R' t = R t
theorem KeepC.refl (R : Rws) : KeepC R R := fun _ _ _ _ _ _ => rfl
theorem KeepC.trans {R R' R'' : Rws} (h : KeepC R R') (h2 : KeepC R' R'') : KeepC R R'' := fun t a b c d e => (h2 t a b c d e).trans (h t a b c d e)
theorem HnC.with4 {hb : Nat} {h1 h2 : Option (Rw × Rw)} {h3 : Option Rw} {h4 : Option (List Ar × Nat × Nat)} {R R' : Rws} (h : HnC hb h1 h2 h3 h4 R) (k : KeepC R R')
    (hobj : R' (0, 0, 0) = ⟨34, 7, some ⟨hb, 0, none⟩, 1, 1, [(R (0, 1, 0)).v, (R (0, 1, 1)).v, (R (0, 2, 0)).v, (R (0, 2, 1)).v, (R (0, 3, 0)).v, (R' (0, 4, 0)).v, (R' (0, 5, 0)).v]⟩)
    (hm : ManyC R') (ho : OuterC R') (h4' : Option (List Ar × Nat × Nat)) (hl : ∀ l, h4' = some l → LaidC l R') : HnC hb h1 h2 h3 h4' R' := by
  have q : ∀ a b c, a ≠ 1 → a ≠ 2 → (a ≠ 0 ∨ (b ≠ 0 ∧ b ≠ 4 ∧ b ≠ 5)) → R' (a, b, c) = R (a, b, c) := fun a b c q1 q2 q3 =>
    k _ (fun e => by simp only [Prod.mk.injEq] at e; omega) (fun e => by simp only [Prod.mk.injEq] at e; omega) (fun e => by simp only [Prod.mk.injEq] at e; omega) q1 q2
  have x1 := q 0 1 0 (by decide) (by decide) (by decide)
  have x2 := q 0 1 1 (by decide) (by decide) (by decide)
  have x3 := q 0 2 0 (by decide) (by decide) (by decide)
  have x4 := q 0 2 1 (by decide) (by decide) (by decide)
  have x5 := q 0 3 0 (by decide) (by decide) (by decide)
  refine ⟨by rw [hobj, x1, x2, x3, x4, x5], by rw [x1]; exact h.s1, by rw [x2]; exact h.a1, by rw [x3]; exact h.s2, by rw [x4]; exact h.a2, by rw [x5]; exact h.s3, hm, ho, ?_, fun r e => by rw [x1, x2]; exact h.k1 r e, fun r e => by rw [x3, x4]; exact h.k2 r e, fun r e => by rw [x5]; exact h.k3 r e, hl⟩
  rw [q 9 9 0 (by decide) (by decide) (by decide), q 9 9 1 (by decide) (by decide) (by decide)]; exact h.n9
/-- The many hands, with their number. -/
def ManyN (R : Rws) (m : Nat) : Prop := ∃ (mo : Option Addr) (mc : Nat), R (0, 4, 0) = ⟨30, 2, mo, m, mc, pairL m (fun k => (R (1, k, 0)).v) (fun k => (R (1, k, 1)).v)⟩ ∧ ∀ k, k < m → FullE 3 (R (1, k, 0)) ∧ FullE 2 (R (1, k, 1))
theorem ManyC.num {R : Rws} (h : ManyC R) : ∃ m, ManyN R m := by
  obtain ⟨mo, m, mc, e, hf⟩ := h
  exact ⟨m, mo, mc, e, hf⟩
theorem ManyN.any {R : Rws} {m : Nat} (h : ManyN R m) : ManyC R := by
  obtain ⟨mo, mc, e, hf⟩ := h
  exact ⟨mo, m, mc, e, hf⟩
theorem ManyN.more {R R' : Rws} {M : Nat} (h : ManyN R M) {bo : Option Addr} {d : Nat} (e : R' (0, 4, 0) = ⟨30, 2, bo, M + 1, d, pairL M (fun k => (R (1, k, 0)).v) (fun k => (R (1, k, 1)).v) ++ [.slice none 0 0, .slice none 0 0]⟩)
    (e1 : R' (1, M, 0) = ⟨3, 1, none, 0, 0, []⟩) (e2 : R' (1, M, 1) = ⟨2, 1, none, 0, 0, []⟩) (eN : ∀ k c, k < M → R' (1, k, c) = R (1, k, c)) : ManyN R' (M + 1) := by
  obtain ⟨mo, mc, l3, hf⟩ := h
  refine ⟨bo, d, ?_, fun k hk => ?_⟩
  · rw [e, pairL_succ, e1, e2]
    congr 2
    exact pairL_congr fun k hk => by rw [eN k _ hk, eN k _ hk]; exact ⟨rfl, rfl⟩
  · by_cases q : k = M
    · subst q; rw [e1, e2]; exact ⟨⟨none, 0, [], rfl⟩, ⟨none, 0, [], rfl⟩⟩
    · rw [eN k _ (by omega), eN k _ (by omega)]; exact hf k (by omega)
section
variable {base hb : Nat} {w : World} {R : Rws} {h1 h2 : Option (Rw × Rw)} {h3 : Option Rw} {h4 : Option (List Ar × Nat × Nat)}
/-- The hands have room for M arrays. -/
def LMany (base : Nat) (w : World) (R : Rws) (hb : Nat) (h1 h2 : Option (Rw × Rw)) (h3 : Option Rw) (M : Nat) (w' : World) : Prop :=
  ∃ R' : Rws, Hold base w' R' ∧ HnC hb h1 h2 h3 none R' ∧ ManyN R' M ∧ KeepC R R' ∧ Below base w w'
/-- One more hand. -/
theorem listc_more {wr : World} {M1 : Nat} {R1 : Rws} (hh1 : Hold base wr R1) (b1 : HnC hb h1 h2 h3 none R1) (m1 : ManyN R1 M1) (k1 : KeepC R R1) (hL1 : Below base w wr)
    {bo : Option Addr} {d : Nat} {w2 : World} (hH : Hold base w2 (updR R1 (0, 4, 0) ⟨30, 2, bo, M1 + 1, d, pairL M1 (fun k => (R1 (1, k, 0)).v) (fun k => (R1 (1, k, 1)).v) ++ [.slice none 0 0, .slice none 0 0]⟩)) (hB : Below base wr w2) :
    LMany base w R hb h1 h2 h3 (M1 + 1) (w2.setCell ⟨hb, 5, none⟩ (.slice bo (M1 + 1) d)) := by
  obtain ⟨mo, mc, l3, hf⟩ := m1
  obtain ⟨oo, on, oc, ys, l5⟩ := b1.outer
  have hob := b1.obj
  have hob2 := (updR_ne (R := R1) (r := ⟨30, 2, bo, M1 + 1, d, pairL M1 (fun k => (R1 (1, k, 0)).v) (fun k => (R1 (1, k, 1)).v) ++ [.slice none 0 0, .slice none 0 0]⟩) (show ((0, 0, 0) : Nat × Nat × Nat) ≠ (0, 4, 0) by simp)).trans hob
  have hp := hH.put hob2 5 (.slice bo (M1 + 1) d)
  have hq := (hp.add (1, M1, 0) (r := ⟨3, 1, none, 0, 0, []⟩) (World.ownsRow_nil _ _ _ _) fun s _ g hg => by cases hg).add (1, M1, 1) (r := ⟨2, 1, none, 0, 0, []⟩) (World.ownsRow_nil _ _ _ _) fun s _ g hg => by cases hg
  obtain ⟨Y, hY⟩ : ∃ Y, Y = [(R1 (0, 1, 0)).v, (R1 (0, 1, 1)).v, (R1 (0, 2, 0)).v, (R1 (0, 2, 1)).v, (R1 (0, 3, 0)).v, (R1 (0, 4, 0)).v, (R1 (0, 5, 0)).v].set 5 (.slice bo (M1 + 1) d) := ⟨_, rfl⟩
  rw [← hY] at hq
  have hmn : ManyN (updR (updR (updR (updR R1 (0, 4, 0) ⟨30, 2, bo, M1 + 1, d, pairL M1 (fun k => (R1 (1, k, 0)).v) (fun k => (R1 (1, k, 1)).v) ++ [.slice none 0 0, .slice none 0 0]⟩) (0, 0, 0) ⟨34, 7, some ⟨hb, 0, none⟩, 1, 1, Y⟩) (1, M1, 0) ⟨3, 1, none, 0, 0, []⟩) (1, M1, 1) ⟨2, 1, none, 0, 0, []⟩) (M1 + 1) :=
    ManyN.more ⟨mo, mc, l3, hf⟩ (by rw [updR_ne (by simp), updR_ne (by simp), updR_ne (by simp), updR_eq]) (by rw [updR_ne (by simp), updR_eq]) updR_eq (fun k c hk => by rw [updR_ne (by simp; omega), updR_ne (by simp; omega), updR_ne (by simp), updR_ne (by simp)])
  have hkp : KeepC R1 _ := fun t q1 q2 q3 q4 q5 => by
    show (updR (updR (updR (updR R1 (0, 4, 0) ⟨30, 2, bo, M1 + 1, d, pairL M1 (fun k => (R1 (1, k, 0)).v) (fun k => (R1 (1, k, 1)).v) ++ [.slice none 0 0, .slice none 0 0]⟩) (0, 0, 0) ⟨34, 7, some ⟨hb, 0, none⟩, 1, 1, Y⟩) (1, M1, 0) ⟨3, 1, none, 0, 0, []⟩) (1, M1, 1) ⟨2, 1, none, 0, 0, []⟩) t = R1 t
    rw [updR_ne (fun e => q4 (by rw [e])), updR_ne (fun e => q4 (by rw [e])), updR_ne q1, updR_ne q2]
  refine ⟨_, hq, b1.with4 hkp ?_ hmn.any ⟨oo, on, oc, ys, by rw [updR_ne (by simp), updR_ne (by simp), updR_ne (by simp), updR_ne (by simp), l5]⟩ none (fun l e => by cases e), hmn, k1.trans hkp, hL1.trans (hB.trans (hH.putB hob2 5 _))⟩
  rw [updR_ne (by simp), updR_ne (by simp), updR_eq, updR_ne (by simp), updR_ne (by simp), updR_ne (by simp), updR_eq, updR_ne (by simp), updR_ne (by simp), updR_ne (by simp), updR_ne (by simp), hY]; rfl
/-- The first i of many arrays are laid; the outer row holds them, one mark behind all. -/
def LaidI (base : Nat) (w : World) (R : Rws) (hb : Nat) (h1 h2 : Option (Rw × Rw)) (h3 : Option Rw) (n : Nat) (qs : List Ar) (og oc i : Nat) (w' : World) : Prop :=
  ∃ (M gm : Nat) (f : Nat → Nat × Nat × Nat × Nat) (ys : List Value) (R' : Rws), Hold base w' R' ∧ HnC hb h1 h2 h3 none R' ∧ ManyN R' M ∧ n ≤ M ∧
    R' (0, 5, 0) = ⟨45, 2, some ⟨og, 0, none⟩, n + 1, oc, ys⟩ ∧
    (∀ k A, k < i → qs[k]? = some A → A.sn ≤ (f k).2.1 ∧ A.an ≤ (f k).2.2.2 ∧ R' (1, k, 0) = (laid4 A.s A.a (f k).1 (f k).2.1 (f k).2.2.1 (f k).2.2.2).1 ∧ R' (1, k, 1) = (laid4 A.s A.a (f k).1 (f k).2.1 (f k).2.2.1 (f k).2.2.2).2 ∧
      ys[k * 2]? = some (.slice (some ⟨(f k).1, 0, none⟩) A.sn (f k).2.1) ∧ ys[k * 2 + 1]? = some (.slice (some ⟨(f k).2.2.1, 0, none⟩) A.an (f k).2.2.2)) ∧
    ys[n * 2]? = some (.slice none 0 0) ∧ ys[n * 2 + 1]? = some (.slice (some ⟨gm, 0, none⟩) 1 1) ∧
    R' (2, 0, 0) = ⟨2, 1, some ⟨gm, 0, none⟩, 1, 1, [.int .i64 (-77)]⟩ ∧ KeepC R R' ∧ Below base w w'
theorem LaidI.laid {n : Nat} {qs : List Ar} {og oc : Nat} {w' : World} (h : LaidI base w R hb h1 h2 h3 n qs og oc n w') (hn : qs.length = n) :
    ∃ (R' : Rws) (ys : List Value), Hold base w' R' ∧ HnC hb h1 h2 h3 (some (qs, og, oc)) R' ∧ R' (0, 5, 0) = ⟨45, 2, some ⟨og, 0, none⟩, n + 1, oc, ys⟩ ∧ KeepC R R' ∧ Below base w w' := by
  obtain ⟨M, gm, f, ys, R', hh, b, hM, hnM, r5, hf, y1, y2, r2, hk, hB⟩ := h
  have hlt : ∀ k A, qs[k]? = some A → k < n := fun k A e => by rw [← hn]; exact (List.getElem?_eq_some_iff.1 e).1
  refine ⟨R', ys, hh, b.with4 (KeepC.refl _) b.obj b.many b.outer (some (qs, og, oc)) (fun l e => ?_), r5, hk, hB⟩
  simp only [Option.some.injEq] at e
  subst e
  refine ⟨by obtain ⟨mo, mc, e4, -⟩ := hM; rw [e4]; exact Nat.le_trans (Nat.le_of_eq hn) hnM, f, gm, fun k A e => ?_, r2, ys, by show R' (0, 5, 0) = ⟨_, 2, _, qs.length + 1, _, _⟩; rw [hn]; exact r5, fun k A e => ?_, by show ys[qs.length * 2]? = _; rw [hn]; exact y1, by show ys[qs.length * 2 + 1]? = _; rw [hn]; exact y2⟩
  · obtain ⟨q1, q2, q3, q4, -⟩ := hf k A (hlt k A e) e; exact ⟨q1, q2, q3, q4⟩
  · obtain ⟨-, -, -, -, q5, q6⟩ := hf k A (hlt k A e) e; exact ⟨q5, q6⟩
/-- Behind both appends and stores: no array is laid yet. -/
theorem listc_start {w5 : World} {M1 n : Nat} {qs : List Ar} {R1 R5 : Rws} (b1 : HnC hb h1 h2 h3 none R1) (m1 : ManyN R1 M1) (hM : n ≤ M1) (k1 : KeepC R R1)
    {og oc gm : Nat} {vs : List Value} (hvs : vs.length = n * 2) (h5 : Hold base w5 R5) (hB : Below base w w5)
    (r0 : R5 (0, 0, 0) = ⟨34, 7, some ⟨hb, 0, none⟩, 1, 1, [(R1 (0, 1, 0)).v, (R1 (0, 1, 1)).v, (R1 (0, 2, 0)).v, (R1 (0, 2, 1)).v, (R1 (0, 3, 0)).v, (R1 (0, 4, 0)).v, .slice (some ⟨og, 0, none⟩) (n + 1) oc]⟩)
    (r5 : R5 (0, 5, 0) = ⟨45, 2, some ⟨og, 0, none⟩, n + 1, oc, vs ++ [.slice none 0 0, .slice (some ⟨gm, 0, none⟩) 1 1]⟩)
    (r2 : R5 (2, 0, 0) = ⟨2, 1, some ⟨gm, 0, none⟩, 1, 1, [.int .i64 (-77)]⟩)
    (rN : ∀ t, t ≠ (0, 0, 0) → t ≠ (0, 5, 0) → t ≠ (2, 0, 0) → R5 t = R1 t) : LaidI base w R hb h1 h2 h3 n qs og oc 0 w5 := by
  have q4 : R5 (0, 4, 0) = R1 (0, 4, 0) := rN _ (by simp) (by simp) (by simp)
  have q1 : ∀ k c, R5 (1, k, c) = R1 (1, k, c) := fun k c => rN _ (by simp) (by simp) (by simp)
  have hkp : KeepC R1 R5 := fun t a1 a2 a3 a4 a5 => rN t a1 a3 (fun e => a5 (by rw [e]))
  have hmn : ManyN R5 M1 := by
    obtain ⟨mo, mc, e, hf⟩ := m1
    refine ⟨mo, mc, ?_, fun k hk => by rw [q1, q1]; exact hf k hk⟩
    rw [q4, e]
    congr 1
    exact pairL_congr fun k hk => by rw [q1, q1]; exact ⟨rfl, rfl⟩
  refine ⟨M1, gm, fun _ => (0, 0, 0, 0), _, R5, h5, b1.with4 hkp ?_ hmn.any ⟨_, _, _, _, r5⟩ none (fun l e => by cases e), hmn, hM, r5, fun k A hk => absurd hk (Nat.not_lt_zero _), ?_, ?_, r2, k1.trans hkp, hB⟩
  · rw [r0, q4, r5]; rfl
  · rw [List.getElem?_append_right (by omega), hvs, Nat.sub_self]; rfl
  · rw [List.getElem?_append_right (by omega), hvs, Nat.add_sub_cancel_left]; rfl
/-- One array more is laid. -/
theorem listc_step {w1 w2 : World} {n i M gm : Nat} {qs : List Ar} {og oc : Nat} {f : Nat → Nat × Nat × Nat × Nat} {ys : List Value} {R1 R2 : Rws} {A : Ar} (hi : i < n) (hA : qs[i]? = some A)
    (b1 : HnC hb h1 h2 h3 none R1) (hM : n ≤ M) (r5 : R1 (0, 5, 0) = ⟨45, 2, some ⟨og, 0, none⟩, n + 1, oc, ys⟩)
    (hf : ∀ k A, k < i → qs[k]? = some A → A.sn ≤ (f k).2.1 ∧ A.an ≤ (f k).2.2.2 ∧ R1 (1, k, 0) = (laid4 A.s A.a (f k).1 (f k).2.1 (f k).2.2.1 (f k).2.2.2).1 ∧ R1 (1, k, 1) = (laid4 A.s A.a (f k).1 (f k).2.1 (f k).2.2.1 (f k).2.2.2).2 ∧
      ys[k * 2]? = some (.slice (some ⟨(f k).1, 0, none⟩) A.sn (f k).2.1) ∧ ys[k * 2 + 1]? = some (.slice (some ⟨(f k).2.2.1, 0, none⟩) A.an (f k).2.2.2))
    (y1 : ys[n * 2]? = some (.slice none 0 0)) (y2 : ys[n * 2 + 1]? = some (.slice (some ⟨gm, 0, none⟩) 1 1)) (r2 : R1 (2, 0, 0) = ⟨2, 1, some ⟨gm, 0, none⟩, 1, 1, [.int .i64 (-77)]⟩) (hk : KeepC R R1) (hB : Below base w w1)
    {mo : Option Addr} {mc : Nat} (hfl : ∀ k, k < M → FullE 3 (R1 (1, k, 0)) ∧ FullE 2 (R1 (1, k, 1))) (l3 : R1 (0, 4, 0) = ⟨30, 2, mo, M, mc, pairL M (fun k => (R1 (1, k, 0)).v) (fun k => (R1 (1, k, 1)).v)⟩)
    {g d g2 d2 : Nat} (hd : A.sn ≤ d) (hd2 : A.an ≤ d2) (H2 : Hold base w2 R2) (hB2 : Below base w1 w2) (s1 : R2 (1, i, 0) = ⟨3, 1, some ⟨g, 0, none⟩, d, d, (mkd mkS A.s d).map (Value.int .i64)⟩) (s2 : R2 (1, i, 1) = ⟨2, 1, some ⟨g2, 0, none⟩, d2, d2, (mkd mkQ A.a d2).map (Value.int .i64)⟩)
    (s3 : R2 (0, 4, 0) = ⟨30, 2, mo, M, mc, ((pairL M (fun k => (R1 (1, k, 0)).v) (fun k => (R1 (1, k, 1)).v)).set (i * 2 + 1) (.slice (some ⟨g2, 0, none⟩) d2 d2)).set (i * 2) (.slice (some ⟨g, 0, none⟩) d d)⟩) (sN : ∀ t, t ≠ (0, 4, 0) → t ≠ (1, i, 0) → t ≠ (1, i, 1) → R2 t = R1 t) :
    LaidI base w R hb h1 h2 h3 n qs og oc (i + 1) ((w2.setCell ⟨og, i * 2, none⟩ (.slice (some ⟨g, 0, none⟩) A.sn d)).setCell ⟨og, i * 2 + 1, none⟩ (.slice (some ⟨g2, 0, none⟩) A.an d2)) := by
  have s5 : R2 (0, 5, 0) = _ := (sN _ (by simp) (by simp) (by simp)).trans r5
  have hp := H2.put s5 (i * 2) (.slice (some ⟨g, 0, none⟩) A.sn d)
  have hq := hp.put updR_eq (i * 2 + 1) (.slice (some ⟨g2, 0, none⟩) A.an d2)
  rw [updS_two] at hq
  have hyl : ys.length = (n + 1) * 2 := (H2.cap s5).2.2.1
  have q1 : ∀ k c, k ≠ i → R2 (1, k, c) = R1 (1, k, c) := fun k c hki => sN _ (by simp) (by simpa using fun e => absurd e hki) (by simpa using fun e => absurd e hki)
  have hmn : ManyN (updR R2 (0, 5, 0) ⟨45, 2, some ⟨og, 0, none⟩, n + 1, oc, (ys.set (i * 2) (.slice (some ⟨g, 0, none⟩) A.sn d)).set (i * 2 + 1) (.slice (some ⟨g2, 0, none⟩) A.an d2)⟩) M := by
    refine ⟨mo, mc, ?_, fun k hkM => ?_⟩
    · rw [updR_ne (by simp), s3, pairL_set _ _ _ _ (by omega)]
      congr 1
      refine pairL_congr fun k hkM => ?_
      rw [updR_ne (by simp), updR_ne (by simp)]
      by_cases e : k = i
      · subst e; rw [if_pos rfl, if_pos rfl, s1, s2]; exact ⟨rfl, rfl⟩
      · rw [if_neg e, if_neg e, q1 k _ e, q1 k _ e]; exact ⟨rfl, rfl⟩
    · rw [updR_ne (by simp), updR_ne (by simp)]
      by_cases e : k = i
      · subst e; exact ⟨⟨_, _, _, s1⟩, ⟨_, _, _, s2⟩⟩
      · rw [q1 k _ e, q1 k _ e]; exact hfl k hkM
  have hkp : KeepC R1 (updR R2 (0, 5, 0) ⟨45, 2, some ⟨og, 0, none⟩, n + 1, oc, (ys.set (i * 2) (.slice (some ⟨g, 0, none⟩) A.sn d)).set (i * 2 + 1) (.slice (some ⟨g2, 0, none⟩) A.an d2)⟩) := fun t a1 a2 a3 a4 a5 => by
    rw [updR_ne a3]; exact sN t a2 (fun e => a4 (by rw [e])) (fun e => a4 (by rw [e]))
  refine ⟨M, gm, fun k => if k = i then (g, d, g2, d2) else f k, _, _, hq, b1.with4 hkp ?_ hmn.any ⟨_, _, _, _, updR_eq⟩ none (fun l e => by cases e), hmn, hM, updR_eq, fun k B hki hB' => ?_, ?_, ?_, ?_, hk.trans hkp, hB.trans (hB2.trans ((H2.putB s5 (i * 2) _).trans (hp.putB updR_eq (i * 2 + 1) _)))⟩
  · have hob := b1.obj
    rw [updR_ne (by simp), sN _ (by simp) (by simp) (by simp), hob, updR_eq, updR_ne (by simp), s3, l3, r5]; rfl
  · by_cases e : k = i
    · subst e
      rw [hA] at hB'; simp only [Option.some.injEq] at hB'; subst hB'
      simp only [if_true]
      refine ⟨hd, hd2, by rw [updR_ne (by simp), s1]; rfl, by rw [updR_ne (by simp), s2]; rfl, ?_, ?_⟩
      · rw [List.getElem?_set_ne (by omega), List.getElem?_set_self (by omega)]
      · rw [List.getElem?_set_self (by rw [List.length_set]; omega)]
    · simp only [if_neg e]
      obtain ⟨a1, a2, a3, a4, a5, a6⟩ := hf k B (by omega) hB'
      refine ⟨a1, a2, by rw [updR_ne (by simp), q1 k _ e]; exact a3, by rw [updR_ne (by simp), q1 k _ e]; exact a4, ?_, ?_⟩
      · rw [List.getElem?_set_ne (by omega), List.getElem?_set_ne (by omega)]; exact a5
      · rw [List.getElem?_set_ne (by omega), List.getElem?_set_ne (by omega)]; exact a6
  · rw [List.getElem?_set_ne (by omega), List.getElem?_set_ne (by omega)]; exact y1
  · rw [List.getElem?_set_ne (by omega), List.getElem?_set_ne (by omega)]; exact y2
  · rw [updR_ne (by simp), sN _ (by simp) (by simp) (by simp)]; exact r2
theorem own_shut2 {w : World} {base : Nat} {E : TypeId} {ao : Option Addr} {n c : Nat} {xs : List Value} (h : w.ownsRow base E 2 (.slice ao n c) n xs) : w.ownsRow base E 2 (.slice ao 0 c) 0 [] := by
  obtain ⟨h1, h2⟩ := h
  refine ⟨rfl, ?_⟩
  rcases h2 with ⟨h2, h3⟩ | ⟨g, cap, cur, hv, hg, hh, hc, hm, hs, ht⟩
  · left; cases h2; exact ⟨rfl, rfl⟩
  · right; cases hv; exact ⟨g, c, cur, rfl, hg, hh, by omega, hm, hs, by simp⟩
theorem Hold.wpList_ars {P : Program} {tg : Nat × Nat × Nat} (h : Hold base w R) {ops : Array Oper} {rest : List Oper} {o : Oper} {a : Act} {Q : Exit → Act → World → Prop} (hgd : o.guard = none) (s x : Operand) (t : TypeId)
    (ho : o.op = .call { callee := .builtin .append, args := #[s, x], argTypes := #[t, t] })
    (e : TypeId) (i : TypeInfo) (z : Value) (bytes : Nat) (ht : P.underlying t = some (.slice e)) (hi : P.info? e = some i) (hz : i.zero = some z)
    (hsize : i.size = 2) (hby : i.bytes = bytes) (hzs : z.cells.size = 2)
    {ao : Option Addr} {c : Nat} (hr : R tg = ⟨e, 2, ao, 0, c, []⟩) (hs : a.eval s = .slice ao 0 c)
    {la : Option Addr} {m lc : Nat} {As : List Ar} (hx : a.eval x = .slice la m lc) (hL : Ars w la m lc As) (h63 : m ≤ maxLen) (hbytes : m * bytes ≤ 140737488355328)
    (hk : ∀ bo d vs w', vs.length = m * 2 → Hold base w' (updR R tg ⟨e, 2, bo, m, d, vs⟩) → Below base w w' → wpList P ops Q rest (a.put o.dst (.slice bo m d)) w') : wpList P ops Q (o :: rest) a w := by
  by_cases h0 : 0 < m
  · obtain ⟨b, off, rfl, -, hc⟩ := hL.mem h0
    have hsome : ∀ j, j < m * 2 → ∃ ai ni ci, w.cell? ⟨b, off + j, none⟩ = some (.slice ai ni ci) := fun j hj => by
      obtain ⟨q1, q2⟩ := hc (j / 2) _ (List.getElem?_eq_getElem (by rw [hL.len]; omega))
      by_cases hp : j % 2 = 0
      · rw [show j / 2 * 2 = j by omega] at q1; exact ⟨_, _, _, q1⟩
      · rw [show j / 2 * 2 + 1 = j by omega] at q2; exact ⟨_, _, _, q2⟩
    have hget : ∀ j u, ((List.range (m * 2)).map fun j => (w.cell? ⟨b, off + j, none⟩).getD undef)[j]? = some u → j < m * 2 ∧ u = (w.cell? ⟨b, off + j, none⟩).getD undef := fun j u hj => by
      rw [List.getElem?_map] at hj
      by_cases hjm : j < m * 2
      · rw [List.getElem?_range hjm] at hj
        simp only [Option.map_some, Option.some.injEq] at hj
        exact ⟨hjm, hj.symm⟩
      · rw [List.getElem?_eq_none (by simpa using hjm)] at hj; cases hj
    refine h.wpList_app hgd s x t ho tg e i z 2 bytes ht hi hz hsize hby hzs (by decide) hr hs ⟨b, off, none⟩ m lc hx ((List.range (m * 2)).map fun j => (w.cell? ⟨b, off + j, none⟩).getD undef) (by simp) (fun j u hj => ?_) (fun u hu => ?_) (by rw [Nat.zero_add]; exact h63) (by rw [Nat.zero_add]; exact hbytes) fun bo d w' h1 h2 => ?_
    · obtain ⟨hjm, rfl⟩ := hget j u hj
      obtain ⟨ai, ni, ci, h1⟩ := hsome j hjm
      rw [show (⟨b, off, none⟩ : Addr).add j = ⟨b, off + j, none⟩ by unfold Addr.add; split; (rename_i h; rw [h, Nat.add_zero]); rfl, h1]; rfl
    · obtain ⟨j, hj⟩ := List.getElem?_of_mem hu
      obtain ⟨hjm, rfl⟩ := hget j u hj
      obtain ⟨ai, ni, ci, h1⟩ := hsome j hjm
      rw [h1]; rfl
    · rw [Nat.zero_add] at h1 ⊢
      exact hk bo d _ w' (by simp) h1 h2
  · have hm : m = 0 := by omega
    subst hm
    have hown := h.own tg
    rw [hr] at hown
    cases la with
    | none =>
      refine wpList_app0 hgd s x t ho e i ht hi hown hs hx ?_
      exact hk ao c [] w rfl (by rw [updS_self hr]; exact h) (Below.refl _ _)
    | some ad =>
      refine h.wpList_app hgd s x t ho tg e i z 2 bytes ht hi hz hsize hby hzs (by decide) hr hs ad 0 lc hx [] rfl (fun j u hj => by simp at hj) (fun u hu => by cases hu) (by rw [Nat.zero_add]; exact h63) (by rw [Nat.zero_add]; exact hbytes) fun bo d w' h1 h2 => ?_
      exact hk bo d [] w' rfl h1 h2
set_option maxRecDepth 100000 in
set_option maxHeartbeats 6400000 in
theorem listc_hold (H : Hold base w R) (B : HnC hb h1 h2 h3 h4 R) {w0 : World} {la : Option Addr} {n lc : Nat} {qs : List Ar} (hA : Ars w0 la n lc qs) (h0 : w0.heap.size ≤ base) (hb0 : Below base w0 w) (hbig : n * 48 ≤ 140737488351232) :
    Calls Try.prog 46 #[.pointer (some ⟨hb, 0, none⟩), .slice la n lc] w (fun e w' => ∃ og oc, e = .returned (.slice (some ⟨og, 0, none⟩) n oc) ∧ LaidI base w R hb h1 h2 h3 n qs og oc n w') := by
  obtain ⟨M, hM0⟩ := B.many.num
  have H0 : Hid (LMany base w R hb h1 h2 h3 M w) := ⟨R, H, B.with4 (KeepC.refl _) B.obj B.many B.outer none (fun l e => by cases e), hM0, KeepC.refl _, Below.refl _ _⟩
  have hl : ∀ wx, Below base w wx → Ars wx la n lc qs := fun wx hb => hA.below (hb0.trans hb) h0
  have HL := Lib.hid hl
  have HL0 := Lib.hid hA
  have HB0 := Lib.hid (And.intro h0 hb0)
  clear H B hl hA h0 hb0 hM0
  go_enter Try.func46, Try.ntmps46
  go_wp2_with fail
  go_loopw [] (fun wx => ∃ M1 : Nat, Hid (LMany base w R hb h1 h2 h3 M1 wx)) (fun wx => n - lenW ((wx.cell? ⟨hb, 5, none⟩).getD undef))
  case atStart => exact ⟨M, H0⟩
  case round =>
    clear H0
    obtain ⟨M1, HM⟩ := hrel
    obtain ⟨R1, hh1, b1, m1, k1, hL1⟩ := HM.out
    have M1N := Lib.hid m1
    obtain ⟨mo, mc, l3, hf⟩ := m1
    obtain ⟨oo, on, oc, ys, l5⟩ := b1.outer
    have hob := b1.obj
    rw [l3, l5] at hob
    simp only [Rw.v] at hob
    have d2 : wr.cell? ⟨hb, 5, none⟩ = some (.slice mo M1 mc) := hh1.cell hob 5 _ rfl
    have HOB := Lib.hid hob
    have L3 := Lib.hid l3
    have L5 := Lib.hid l5
    have H1 := Lib.hid hh1
    have B1 := Lib.hid b1
    have E := Lib.hid (And.intro k1 hL1)
    by_cases hlt : M1 < n
    · have hlt' : (M1 : Int) < n := by omega
      obtain ⟨i0, hi0, hz0, hz1, hz2⟩ := info_parts (P := Try.prog) (e := 30) (z := .agg #[.slice none 0 0, .slice none 0 0]) (size := 2) (bytes := 48) (by kernel_rfl)
      have HA : Hid (Hold base (wr.alloc (.cells #[.slice none 0 0, .slice none 0 0] 30)) R1) := hh1.via (abal _ _)
      have hA1 : (wr.alloc (.cells #[.slice none 0 0, .slice none 0 0] 30)).cell? ⟨wr.heap.size, 0, none⟩ = some (.slice none 0 0) := by simp [go_sem]
      have hA2 : (wr.alloc (.cells #[.slice none 0 0, .slice none 0 0] 30)).cell? ⟨wr.heap.size, 1, none⟩ = some (.slice none 0 0) := by simp [go_sem]
      have d2' : (wr.alloc (.cells #[.slice none 0 0, .slice none 0 0] 30)).cell? ⟨hb, 5, none⟩ = some (.slice mo M1 mc) := HA.out.cell hob 5 _ rfl
      have b63 : M1 + 1 ≤ maxLen := by unfold maxLen; omega
      have b64 : (M1 + 1) * 48 ≤ 140737488355328 := by omega
      have HA1 := Lib.hid hA1
      have HA2 := Lib.hid hA2
      clear hob l3 l5 hh1 b1 k1 hL1 hA1 hA2 hf
      go_wp2_with (at_builtin; refine Hold.wpList_app HA.out rfl _ _ 31 rfl (0, 4, 0) 30 i0 (.agg #[.slice none 0 0, .slice none 0 0]) 2 48 Try.underlying31 hi0 hz0 hz1 hz2 rfl (by decide) L3.out rfl ⟨wr.heap.size, 0, none⟩ 1 1 rfl [.slice none 0 0, .slice none 0 0] rfl (by intro j u hj; match j with | 0 => (simp at hj; subst hj; exact HA1.out) | 1 => (simp at hj; subst hj; exact HA2.out) | j + 2 => simp at hj) (by intro u hu; simp at hu; subst hu; rfl) b63 b64 ?_)
      intro bo d w2 hH hB
      have HB2 := Lib.hid (((abal wr (.cells #[.slice none 0 0, .slice none 0 0] 30)).mono (H1.out.base)).trans hB)
      have HN := Lib.hid (listc_more H1.out B1.out M1N.out E.out.1 E.out.2 hH HB2.out)
      have r1 := hH.cell ((updR_ne (show ((0, 0, 0) : Nat × Nat × Nat) ≠ (0, 4, 0) by simp)).trans HOB.out) 5 _ rfl
      have r2 := hH.frozen ((updR_ne (show ((0, 0, 0) : Nat × Nat × Nat) ≠ (0, 4, 0) by simp)).trans HOB.out) 5
      have HD := Lib.hid d2
      have HD2 : Hid ((w2.setCell ⟨hb, 5, none⟩ (.slice bo (M1 + 1) d)).cell? ⟨hb, 5, none⟩ = some (.slice bo (M1 + 1) d)) := (hH.put ((updR_ne (show ((0, 0, 0) : Nat × Nat × Nat) ≠ (0, 4, 0) by simp)).trans HOB.out) 5 (.slice bo (M1 + 1) d)).cell updR_eq 5 _ rfl
      clear hH hB d2 d2'
      go_wp2
      go_roundw
      case rel => exact ⟨M1 + 1, HN⟩
      case measure => rw [HD.out, HD2.out]; show n - (M1 + 1) < n - M1; omega
    · have hge : (n : Int) ≤ M1 := by omega
      have HLS := Lib.hid (HL.out wr hL1)
      obtain ⟨i0, hi0, hz0, hz1, hz2⟩ := info_parts (P := Try.prog) (e := 45) (z := .agg #[.slice none 0 0, .slice none 0 0]) (size := 2) (bytes := 48) (by kernel_rfl)
      have ho5 := hh1.own (0, 5, 0)
      rw [l5] at ho5
      have hq := hh1.add (0, 5, 0) (r := ⟨45, 2, oo, 0, oc, []⟩) (own_shut2 ho5) fun s hs g hg hg' => hh1.dis s (0, 5, 0) hs g hg' (by rw [l5]; cases oo <;> exact hg)
      have H2 := Lib.hid hq
      have d3 : wr.cell? ⟨hb, 6, none⟩ = some (.slice oo on oc) := hh1.cell hob 6 _ rfl
      have f3 := hh1.frozen hob 6
      have c0 : (0 : Int) ≤ oc := by omega
      have b63 : n ≤ maxLen := by unfold maxLen; omega
      have b64 : n * 48 ≤ 140737488355328 := by omega
      clear hob l3 l5 hh1 b1 k1 hL1 ho5 hq hf
      go_wp2_with (at_builtin; refine Hold.wpList_ars (tg := (0, 5, 0)) H2.out rfl _ _ 32 rfl 45 i0 (.agg #[.slice none 0 0, .slice none 0 0]) 48 Try.underlying32 hi0 hz0 hz1 hz2 rfl updR_eq rfl rfl HLS.out b63 b64 ?_)
      intro bo d vs w2 hvs hH hB
      rw [updS_two] at hH
      obtain ⟨W3, HW3⟩ : ∃ z, Hid (w2.setCell ⟨hb, 6, none⟩ (.slice bo n d) = z) := ⟨_, rfl⟩
      have hob3 := (updR_ne (R := R1) (r := ⟨45, 2, bo, n, d, vs⟩) (show ((0, 0, 0) : Nat × Nat × Nat) ≠ (0, 5, 0) by simp)).trans HOB.out
      have r3 := hH.cell hob3 6 _ rfl
      have q3 := hH.frozen hob3 6
      have hp3 := hH.put hob3 6 (.slice bo n d)
      have hb3 := hB.trans (hH.putB hob3 6 (.slice bo n d))
      rw [HW3.out] at hp3 hb3
      have t3 := hp3.cell updR_eq 6 _ rfl
      have H3 := Lib.hid hp3
      have HB3 := Lib.hid hb3
      have HVS := Lib.hid hvs
      clear hH hB d2 d3 f3 hp3 hb3 hvs
      go_upto_region 4 with fail
      rw [HW3.out]
      clear r3 q3
      have hq4 := (H3.out.alloc (2, 0, 0) (cs := #[.int .i64 (-77)]) (E := 2) (sz := 1) (n := 1) rfl (by decide)).via (abal _ (.cells #[.slice none 0 0, .slice (some ⟨W3.heap.size, 0, none⟩) 1 1] 45))
      have H4 := Lib.hid hq4
      have b65 : n + 1 ≤ maxLen := by unfold maxLen; omega
      have b66 : (n + 1) * 48 ≤ 140737488355328 := by omega
      have n1 : Hid (((W3.alloc (.cells #[.int .i64 (-77)] 2)).alloc (.cells #[.slice none 0 0, .slice (some ⟨W3.heap.size, 0, none⟩) 1 1] 45)).cell? ⟨W3.heap.size + 1, 0, none⟩ = some (.slice none 0 0)) := by show _ = _; simp [go_sem]
      have n2 : Hid (((W3.alloc (.cells #[.int .i64 (-77)] 2)).alloc (.cells #[.slice none 0 0, .slice (some ⟨W3.heap.size, 0, none⟩) 1 1] 45)).cell? ⟨W3.heap.size + 1, 1, none⟩ = some (.slice (some ⟨W3.heap.size, 0, none⟩) 1 1)) := by show _ = _; simp [go_sem]
      clear hq4
      go_wp2_with (at_builtin; refine Hold.wpList_app H4.out rfl _ _ 32 rfl (0, 5, 0) 45 i0 (.agg #[.slice none 0 0, .slice none 0 0]) 2 48 Try.underlying32 hi0 hz0 hz1 hz2 rfl (by decide) ((updR_ne (by simp)).trans ((updR_ne (by simp)).trans updR_eq)) rfl ⟨W3.heap.size + 1, 0, none⟩ 1 1 rfl [.slice none 0 0, .slice (some ⟨W3.heap.size, 0, none⟩) 1 1] rfl (by intro j u hj; match j with | 0 => (simp at hj; subst hj; exact n1.out) | 1 => (simp at hj; subst hj; exact n2.out) | j + 2 => simp at hj) (by intro u hu; simp at hu; rcases hu with rfl | rfl <;> rfl) b65 b66 ?_)
      intro b5 d5 w5 hH hB
      have hcap := hH.cap updR_eq
      obtain ⟨og, rfl⟩ := hcap.2.2.2.2 (by omega)
      have hob5 := ((updR_ne (by simp)).trans ((updR_ne (by simp)).trans updR_eq) : (updR (updR (updR (updR R1 (0, 5, 0) ⟨45, 2, bo, n, d, vs⟩) (0, 0, 0) ⟨34, 7, some ⟨hb, 0, none⟩, 1, 1, [(R1 (0, 1, 0)).v, (R1 (0, 1, 1)).v, (R1 (0, 2, 0)).v, (R1 (0, 2, 1)).v, (R1 (0, 3, 0)).v, .slice mo M1 mc, .slice oo on oc].set 6 (.slice bo n d)⟩) (2, 0, 0) ⟨2, 1, some ⟨W3.heap.size, 0, none⟩, 1, 1, [.int .i64 (-77)]⟩) (0, 5, 0) ⟨45, 2, some ⟨og, 0, none⟩, n + 1, d5, vs ++ [.slice none 0 0, .slice (some ⟨W3.heap.size, 0, none⟩) 1 1]⟩) (0, 0, 0) = _)
      have r5 := hH.cell hob5 6 _ rfl
      have q5 := hH.frozen hob5 6
      have h6 := hH.put hob5 6 (.slice (some ⟨og, 0, none⟩) (n + 1) d5)
      have hb6 := E.out.2.trans (HB3.out.trans (((abvia (abal W3 (.cells #[.int .i64 (-77)] 2)) (abal _ (.cells #[.slice none 0 0, .slice (some ⟨W3.heap.size, 0, none⟩) 1 1] 45))).mono H3.out.base).trans (hB.trans (hH.putB hob5 6 (.slice (some ⟨og, 0, none⟩) (n + 1) d5)))))
      have HS0 := Lib.hid (listc_start (qs := qs) (hb := hb) (gm := W3.heap.size) B1.out M1N.out (by omega) E.out.1 HVS.out h6 hb6 (by rw [updR_eq, L3.out]; rfl) (by rw [updR_ne (by simp), updR_eq]) (by rw [updR_ne (by simp), updR_ne (by simp), updR_eq]) (fun t h1 h2 h3 => by rw [updR_ne h1, updR_ne h2, updR_ne h3, updR_ne h1, updR_ne h2]))
      clear hcap hob5 hH hB h6 hb6 E HVS H4 n1 n2 H3 HB3 HW3 HOB L3 L5 H1 B1 M1N HM HLS H2 t3
      go_wp2_with fail
      go_loopw [5] (fun v5 wx => ∃ i : Nat, i ≤ n ∧ v5 = .int .i64 i ∧ Hid (LaidI base w R hb h1 h2 h3 n qs og d5 i wx)) (fun v5 _ => n - (RowKit.intOf v5).toNat)
      case atStart => exact ⟨0, Nat.zero_le _, rfl, HS0⟩
      case round =>
        clear HS0
        obtain ⟨i, hi, rfl, HI⟩ := hrel
        obtain ⟨M', gm, f, ys, R2, hh1, b1, hmn, hM, r5, hf, y1, y2, r2, hk, hB⟩ := HI.out
        obtain ⟨mo, mc, l3, hfl⟩ := hmn
        have hob := b1.obj
        rw [l3, r5] at hob
        simp only [Rw.v] at hob
        have d3 : wr.cell? ⟨hb, 6, none⟩ = some (.slice (some ⟨og, 0, none⟩) (n + 1) d5) := hh1.cell hob 6 _ rfl
        by_cases hlt : i < n
        · have hlt' : (i : Int) < n := by omega
          have hlt2 : (i : Int) < n + 1 := by omega
          have d2 : wr.cell? ⟨hb, 5, none⟩ = some (.slice mo M' mc) := hh1.cell hob 5 _ rfl
          obtain ⟨mb, rfl⟩ := (hh1.cap l3).2.2.2.2 (by have := (hh1.cap l3).1; omega)
          obtain ⟨lb, lo, rfl, hlb, hcs⟩ := HL0.out.mem (by omega)
          obtain ⟨A, hAi⟩ : ∃ A, qs[i]? = some A := ⟨_, List.getElem?_eq_getElem (by rw [HL0.out.len]; exact hlt)⟩
          obtain ⟨dl0, dl1⟩ := hcs i A hAi
          have hAI := HL0.out.all i A hAi
          obtain ⟨sa, sn, sc, aa, an, ac, s, a⟩ := A
          simp only at dl0 dl1
          rw [← Nat.add_assoc] at dl1
          have HDL : Hid (∀ wx, Below base wr wx → wx.cell? ⟨lb, lo + i * 2, none⟩ = some (.slice sa sn sc) ∧ wx.cell? ⟨lb, lo + i * 2 + 1, none⟩ = some (.slice aa an ac)) := fun wx hb => ⟨((HB0.out.2.trans (hB.trans hb)).cell (p := ⟨lb, lo + i * 2, none⟩) (Nat.lt_of_lt_of_le hlb HB0.out.1)).trans dl0, ((HB0.out.2.trans (hB.trans hb)).cell (p := ⟨lb, lo + i * 2 + 1, none⟩) (Nat.lt_of_lt_of_le hlb HB0.out.1)).trans dl1⟩
          obtain ⟨dl, dm⟩ := HDL.out wr (Below.refl _ _)
          obtain ⟨⟨eo, ed, ES, e4⟩, ⟨fo', fd, FS, f4⟩⟩ := hfl i (by omega)
          have hmi : (i : Int) < M' := by omega
          have hld : Below base wr wr.drew := (Below.refl _ _).drew
          obtain ⟨p1, p2⟩ := pairL_at (m := M') (i := i) (fun k => (R2 (1, k, 0)).v) (fun k => (R2 (1, k, 1)).v) (by omega)
          rw [e4] at p1
          rw [f4] at p2
          have CI := Lib.hid (array4_any (hh1.via (adrew1 wr)) (tp := (0, 4, 0)) (tr := (1, i, 0)) (ta := (1, i, 1)) (j := i * 2) (by simp) (by simp) b1.n9 l3 (ho := eo) (hm := ed) (hc := ed) p1 e4 (ao := fo') (m := fd) (c := fd) p2 f4 (A := ⟨sa, sn, sc, aa, an, ac, s, a⟩) (fun wx hb => hAI.below (HB0.out.2.trans (hB.trans (hld.trans hb))) HB0.out.1))
          simp only [Ar.v] at CI
          have HB1 := Lib.hid b1
          have HH1 := Lib.hid hh1
          have HHM := Lib.hid hM
          have HR5 := Lib.hid r5
          have HY := Lib.hid (And.intro y1 y2)
          have HG := Lib.hid hf
          have HR6 := Lib.hid r2
          have HE := Lib.hid (And.intro hk hB)
          have HL3 := Lib.hid l3
          have HFL := Lib.hid hfl
          have HLD := Lib.hid hld
          have HOB := Lib.hid hob
          have HAI := Lib.hid hAi
          have hne1 : ¬ hb = og := fun e => hh1.dis (0, 0, 0) (0, 5, 0) (by simp) hb (by rw [hob]; rfl) (by rw [r5, e]; rfl)
          have hne2 : ¬ og = hb := fun e => hne1 e.symm
          have hne3 : ¬ og = lb := fun e => by
            have := (hh1.lt r5).1
            have := HB0.out.1
            omega
          have hne4 : ¬ lb = og := fun e => hne3 e.symm
          clear b1 hh1 hM r5 hf y1 y2 r2 hk hB l3 hld hob e4 f4 hcs hlb dl0 dl1 HI hfl p1 p2 hAI hAi
          go_upto_region 8 with fail
          go_region_held3 (fun wx => wx.cell? ⟨hb, 6, none⟩ = some (.slice (some ⟨og, 0, none⟩) (n + 1) d5) ∧ wx.cell? ⟨hb, 5, none⟩ = some (.slice (some ⟨mb, 0, none⟩) M' mc) ∧ wx.cell? ⟨lb, lo + i * 2, none⟩ = some (.slice sa sn sc) ∧ wx.cell? ⟨lb, lo + i * 2 + 1, none⟩ = some (.slice aa an ac)) (go_keep)
            (first
            | (go_at_call 35; (with_reducible refine Calls.mono CI.out ?_); rintro e w5 ⟨g, d, g2, d2', R5, rfl, hd, hd2, hH5, s1, s2, s3, sN, hB5⟩; have d5' := hH5.cell ((sN (0, 0, 0) (by simp) (by simp) (by simp)).trans HOB.out) 6 _ rfl; have d6' := hH5.cell ((sN (0, 0, 0) (by simp) (by simp) (by simp)).trans HOB.out) 5 _ rfl; clear d3 d2 dl dm; have d3 : w5.cell? ⟨hb, 6, none⟩ = some (.slice (some ⟨og, 0, none⟩) (n + 1) d5) := d5'; have d2 : w5.cell? ⟨hb, 5, none⟩ = some (.slice (some ⟨mb, 0, none⟩) M' mc) := d6'; obtain ⟨dl, dm⟩ := HDL.out w5 (HLD.out.trans hB5); clear d5' d6'; have h5o := (sN (0, 5, 0) (by simp) (by simp) (by simp)).trans HR5.out; have hyl : i * 2 + 1 < ys.length := (by have := (hH5.cap h5o).2.2.1; omega); have t5 := hH5.cell h5o (i * 2) _ (List.getElem?_eq_getElem (by omega)); have t6 := hH5.frozen h5o (i * 2); have t7 := hH5.cell h5o (i * 2 + 1) _ (List.getElem?_eq_getElem hyl); have t8 := hH5.frozen h5o (i * 2 + 1)))
          have HST := Lib.hid (listc_step (hb := hb) (A := ⟨sa, sn, sc, aa, an, ac, s, a⟩) hlt HAI.out HB1.out HHM.out HR5.out HG.out HY.out.1 HY.out.2 HR6.out HE.out.1 HE.out.2 HFL.out HL3.out (g := g) (d := d) (g2 := g2) (d2 := d2') (by show sn ≤ d; omega) (by show an ≤ d2'; omega) hH5 (HLD.out.trans hB5) s1 s2 s3 sN)
          clear hH5 s1 s2 s3 sN hB5 h5o t5 t6 t7 t8 d3 d2 dl dm hyl hd hd2
          go_wp2
          go_roundw
          case rel => exact ⟨i + 1, by omega, by go_num, HST⟩
          case measure => simp [RowKit.intOf]; omega
        · have hge : (n : Int) ≤ i := by omega
          obtain rfl : i = n := by omega
          have hcp := (hh1.cap r5).1
          have z1 : (i : Int) ≤ d5 := by omega
          have z2 : (i : Int) ≤ i + 1 := by omega
          clear hh1 b1 hM r5 hf y1 y2 r2 hk hB l3 hob hfl
          go_wp2
          go_ret
          exact ⟨og, d5, rfl, HI.out⟩
end
end Go.Proofs.Ythackmkdicpdeaa

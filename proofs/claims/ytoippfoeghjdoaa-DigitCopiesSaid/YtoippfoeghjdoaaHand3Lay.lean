/- The memory in which a short array is handed in (abacuslaw3.Hand): Lay. -/
import Derived.Test.YtoippfoeghjdoaaHand3
import Derived.Test.YtoippfoeghjdoaaAppendAt
import Derived.Test.YtoippfoeghjdoaaArrBegun
namespace Go.Proofs.Ytoippfoeghjdoaa
open Go.RowKit Go.Lib
set_option linter.unusedVariables false
set_option linter.unusedSimpArgs false
attribute [local go_sem] alloc_drewN setCell_drewN

/-- Lay: the array lies in the hand's memory, marks behind it; a long one is handed in as it is. -/
def LaidP (H : Hd) (A : Ar) (base : Nat) (w : World) (e : Ending) (w' : World) : Prop :=
  ∃ B : Ar, e = .returned B.v ∧ B.Is w' ∧ B.s = A.s ∧ B.a = A.a ∧ Out H.foot w w' ∧
    ∃ H' : Hd, H'.hb = H.hb ∧ (∀ k, H'.foot k → H.foot k ∨ w.heap.size ≤ k) ∧ H'.Is base w' ∧ Good A.s H'.S mkS ∧ Good A.a H'.A mkA ∧
      ∀ (F : Nat → Prop) (w2 : World), Out F w' w2 → (∀ j, H'.foot j → ¬ F j) → (∀ j, j < base → ¬ F j) → B.Is w2
theorem Hd.Is.gone {H : Hd} {base : Nat} {w : World} (h : H.Is base w) : Hd.Is ⟨H.hb, none, 0, none, 0, [], []⟩ base ((w.setCell ⟨H.hb, 0, none⟩ (.slice none 0 0)).setCell ⟨H.hb, 1, none⟩ (.slice none 0 0)) :=
  ⟨h.box.set _ _, World.ownsRow_nil _ _ _ _, World.ownsRow_nil _ _ _ _, h.le, by simp [Value.ownBlock], by simp [Value.ownBlock], fun g hg => by simp [Value.ownBlock] at hg, .inl ⟨rfl, rfl⟩⟩
theorem own_at {w : World} {base : Nat} {E : TypeId} {ao : Option Addr} {n c : Nat} {xs : List Value} (h : w.ownsRow base E 1 (.slice ao n c) n xs) (h0 : ao ≠ none) : ∃ g, ao = some ⟨g, 0, none⟩ := by
  rcases h.2 with ⟨h2, -⟩ | ⟨g, cap, cur, hv, -⟩
  · cases h2; exact absurd rfl h0
  · cases hv; exact ⟨g, rfl⟩
/-- The row behind its n first elements is filled with marks up to k. -/
def fl (f : Nat → Int) (n k : Nat) (xs : List Value) : List Value := (List.range xs.length).map fun j => if n ≤ j ∧ j < k then .int .i64 (f j) else xs.getD j undef
theorem fl_len (f : Nat → Int) (n k : Nat) (xs : List Value) : (fl f n k xs).length = xs.length := by simp [fl]
theorem fl_start (f : Nat → Int) (n : Nat) (xs : List Value) : fl f n n xs = xs := by
  refine List.ext_getElem (fl_len _ _ _ _) fun j h1 h2 => ?_
  simp only [fl, List.getElem_map, List.getElem_range]
  rw [if_neg (by omega), List.getD_eq_getElem?_getD, List.getElem?_eq_getElem h2]; rfl
theorem fl_set (f : Nat → Int) {n k : Nat} {xs : List Value} (hn : n ≤ k) (hk : k < xs.length) : (fl f n k xs).set k (.int .i64 (f k)) = fl f n (k + 1) xs := by
  refine List.ext_getElem (by rw [List.length_set, fl_len, fl_len]) fun j h1 h2 => ?_
  rw [List.getElem_set]
  simp only [fl, List.getElem_map, List.getElem_range]
  by_cases e : k = j
  · subst e; rw [if_pos rfl, if_pos ⟨hn, Nat.lt_succ_self _⟩]
  · rw [if_neg e]
    by_cases h : n ≤ j ∧ j < k
    · rw [if_pos h, if_pos ⟨h.1, by omega⟩]
    · rw [if_neg h, if_neg (by omega)]
/-- A list, marks behind it, d in all. -/
def mkd (f : Nat → Int) (s : List Int) (d : Nat) : List Int := (List.range d).map fun j => if j < s.length then s.getD j 0 else f j
theorem fl_end (f : Nat → Int) {s : List Int} {ys : List Value} {d : Nat} (hd : (s.map (Value.int .i64) ++ ys).length = d) : fl f s.length d (s.map (Value.int .i64) ++ ys) = (mkd f s d).map (Value.int .i64) := by
  refine List.ext_getElem (by rw [fl_len, hd]; simp [mkd]) fun j h1 h2 => ?_
  rw [fl_len, hd] at h1
  simp only [fl, mkd, List.getElem_map, List.getElem_range]
  by_cases h : j < s.length
  · rw [if_neg (by omega), if_pos h, List.getD_eq_getElem?_getD, List.getElem?_append_left (by simpa using h), getD_map_int _ _ h]; rfl
  · rw [if_pos ⟨by omega, h1⟩, if_neg h]
theorem mkd_good (f : Nat → Int) (s : List Int) (d : Nat) : Good s (mkd f s d) f := by
  intro i hi
  have hi' : i < d := by simpa [mkd] using hi
  simp only [mkd]
  rw [List.getD_eq_getElem?_getD, List.getElem?_map, List.getElem?_range hi']; rfl
theorem mkd_take (f : Nat → Int) {s : List Int} {d : Nat} (h : s.length ≤ d) : (mkd f s d).take s.length = s := by
  refine List.ext_getElem (by simp [mkd]; omega) fun j h1 h2 => ?_
  simp only [List.getElem_take, mkd, List.getElem_map, List.getElem_range]
  rw [if_pos h2, List.getD_eq_getElem?_getD, List.getElem?_eq_getElem h2]; rfl
theorem ls_of_full {w : World} {base : Nat} {E : TypeId} {g n d : Nat} {S s : List Int} (h : w.ownsRow base E 1 (.slice (some ⟨g, 0, none⟩) d d) d (S.map (Value.int .i64))) (hn : n ≤ d) (hs : S.take n = s) (hb : n * 8 ≤ 140737488351232)
    (hr : ∀ i, -9223372036854775808 ≤ s.getD i 0 ∧ s.getD i 0 ≤ 9223372036854775807) : Ls w (some ⟨g, 0, none⟩) n d s := by
  have hl := own_len h
  obtain ⟨-, hm, -⟩ := own_full h
  obtain ⟨g', e, -, hlt⟩ : ∃ g', some (⟨g, 0, none⟩ : Addr) = some ⟨g', 0, none⟩ ∧ base ≤ g' ∧ (n = 0 ∨ g' < w.heap.size) := by
    rcases Nat.eq_zero_or_pos n with h0 | h0
    · rcases h.2 with ⟨e, -⟩ | ⟨q, cap, cur, e, hq, -⟩
      · cases e
      · exact ⟨q, by cases e; rfl, hq, .inl h0⟩
    · obtain ⟨q, e, h1, h2⟩ := own_some h (by omega); exact ⟨q, e, h1, .inr h2⟩
  cases e
  refine ⟨by rw [← hs, List.length_take]; omega, hn, hb, hm, fun h0 => ⟨g, 0, rfl, by omega, fun i hi => ?_⟩, hr⟩
  rw [Nat.zero_add]
  refine (h.cellAt i (by omega)).trans ((getD_map_int S i (by omega)).trans ?_)
  rw [← hs]
  simp [List.getD, List.getElem?_take, hi]
/-- A row that has grown by an append: where it lies, what else has changed. -/
structure LayM (base : Nat) (T : TypeId) (WR wx : World) (v0 : Value) (bo : Option Addr) (n d : Nat) (xs : List Int) : Prop where
  own : wx.ownsRow base T 1 (.slice bo n d) n (xs.map (Value.int .i64))
  out : Out (fun k => v0.ownBlock = some k) WR wx
  loc : ∀ g, (Value.slice bo n d).ownBlock = some g → v0.ownBlock = some g ∨ WR.heap.size ≤ g
  ne : bo ≠ none
section
variable {base : Nat} {T : TypeId} {WR w3 w4 : World} {v0 : Value} {o : Obj} {b1 b2 : Option Addr} {n d1 d2 : Nat} {xs : List Int}
theorem lo_a1 (g1 : WR.drew.grownBy w3 v0.ownBlock) : Out (fun k => v0.ownBlock = some k) WR w3 := ((Out.refl _ WR).via (adrew1 WR)).grown g1 (fun k hk => .inl hk)
theorem lo_a2 (g1 : WR.drew.grownBy w3 v0.ownBlock) (l1 : ∀ g, (Value.slice b1 n d1).ownBlock = some g → v0.ownBlock = some g ∨ g = WR.drew.heap.size) (g2 : (w3.alloc o).grownBy w4 (Value.slice b1 n d1).ownBlock) : Out (fun k => v0.ownBlock = some k) WR w4 := by
  refine ((lo_a1 g1).alloc o).grown g2 fun k hk => ?_
  rcases l1 k hk with h | h
  · exact .inl h
  · exact .inr (by rw [h]; exact Nat.le_refl _)
theorem lo_b1 (g1 : (WR.alloc o).drew.grownBy w3 v0.ownBlock) : Out (fun k => v0.ownBlock = some k) WR w3 := (((Out.refl _ WR).alloc o).via (adrew1 _)).grown g1 (fun k hk => .inl hk)
theorem lo_bl (l1 : ∀ g, (Value.slice b1 n d1).ownBlock = some g → v0.ownBlock = some g ∨ g = (WR.alloc o).drew.heap.size) : ∀ g, (Value.slice b1 n d1).ownBlock = some g → v0.ownBlock = some g ∨ WR.heap.size ≤ g := fun g hg => by
  rcases l1 g hg with h | h
  · exact .inl h
  · right; rw [h, show (WR.alloc o).drew.heap.size = WR.heap.size + 1 by simp]; omega
theorem lo_b2 (g1 : (WR.alloc o).drew.grownBy w3 v0.ownBlock) (l1 : ∀ g, (Value.slice b1 n d1).ownBlock = some g → v0.ownBlock = some g ∨ g = (WR.alloc o).drew.heap.size) (g2 : w3.grownBy w4 (Value.slice b1 n d1).ownBlock) : Out (fun k => v0.ownBlock = some k) WR w4 :=
  (lo_b1 g1).grown g2 (lo_bl l1)
theorem lay_a (g1 : WR.drew.grownBy w3 v0.ownBlock) (l1 : ∀ g, (Value.slice b1 n d1).ownBlock = some g → v0.ownBlock = some g ∨ g = WR.drew.heap.size)
    (o2 : w4.ownsRow base T 1 (.slice b2 (n + 2) d2) (n + 2) (xs.map (Value.int .i64))) (g2 : (w3.alloc o).grownBy w4 (Value.slice b1 n d1).ownBlock) (l2 : ∀ g, (Value.slice b2 (n + 2) d2).ownBlock = some g → (Value.slice b1 n d1).ownBlock = some g ∨ g = (w3.alloc o).heap.size) (hne : 0 < 2 → b2 ≠ none) :
    LayM base T WR w4 v0 b2 (n + 2) d2 xs := by
  have hs : WR.heap.size ≤ w3.heap.size := g1.size
  refine ⟨o2, lo_a2 g1 l1 g2, ?_, hne (by omega)⟩
  intro g hg
  rcases l2 g hg with h | h
  · rcases l1 g h with h | h
    · exact .inl h
    · exact .inr (by rw [h]; exact Nat.le_refl _)
  · right; rw [h]; simp; omega
theorem lay_b (g1 : (WR.alloc o).drew.grownBy w3 v0.ownBlock) (l1 : ∀ g, (Value.slice b1 n d1).ownBlock = some g → v0.ownBlock = some g ∨ g = (WR.alloc o).drew.heap.size)
    (o2 : w4.ownsRow base T 1 (.slice b2 (n + 2) d2) (n + 2) (xs.map (Value.int .i64))) (g2 : w3.grownBy w4 (Value.slice b1 n d1).ownBlock) (l2 : ∀ g, (Value.slice b2 (n + 2) d2).ownBlock = some g → (Value.slice b1 n d1).ownBlock = some g ∨ g = w3.heap.size) (hne : 0 < 2 → b2 ≠ none) :
    LayM base T WR w4 v0 b2 (n + 2) d2 xs := by
  have hs : (WR.alloc o).heap.size ≤ w3.heap.size := g1.size
  simp at hs
  refine ⟨o2, lo_b2 g1 l1 g2, ?_, hne (by omega)⟩
  intro g hg
  rcases l2 g hg with h | h
  · exact lo_bl l1 g h
  · right; omega
end
theorem lit00 (w : World) (T : TypeId) : Ls (w.alloc (.cells #[.int .i64 0, .int .i64 0] T)) (some ⟨w.heap.size, 0, none⟩) 2 2 [0, 0] := by
  have h := ls_alloc w [0, 0] T (by simp) (fun i => by match i with | 0 => simp | 1 => simp | i + 2 => simp [List.getD])
  simpa using h
theorem lit00b {w w3 : World} {T : TypeId} {row : Option Nat} (hg : (w.alloc (.cells #[.int .i64 0, .int .i64 0] T)).drew.grownBy w3 row) (hr : ∀ k, row = some k → k < w.heap.size) : Ls w3 (some ⟨w.heap.size, 0, none⟩) 2 2 [0, 0] := by
  have h := lit00 w T
  refine ⟨h.len, h.cap, h.big, h.top, fun h0 => ?_, h.rng⟩
  obtain ⟨b, off, e, hlt, hc⟩ := h.mem h0
  cases e
  have hs := hg.size
  simp at hs hlt
  refine ⟨_, _, rfl, by omega, fun i hi => ?_⟩
  refine (World.cell?_of_block (hg.block _ (by simp) (fun e => ?_))).trans (hc i hi)
  have h5 := hr _ e.symm
  simp only at h5
  omega
def rowV (t : List Int) (X : List Value) : List Value := (t ++ [0, 0]).map (Value.int .i64) ++ X
theorem rowV_len (t : List Int) (X : List Value) : (rowV t X).length = t.length + 2 + X.length := by simp [rowV]; omega
theorem rowV_end (f : Nat → Int) {t : List Int} {X : List Value} {n d : Nat} (hn : t.length = n) (hd : (rowV t X).length = d) : fl f n d (rowV t X) = (mkd f t d).map (Value.int .i64) := by
  subst hn
  have e : rowV t X = t.map (Value.int .i64) ++ (([0, 0] : List Int).map (Value.int .i64) ++ X) := by simp [rowV]
  rw [e] at hd ⊢
  exact fl_end f hd
/-- Both rows at their whole length, the header not yet written. -/
structure LayS (F : Nat → Prop) (W wr : World) (base hb g1 d1 g2 d2 : Nat) (u v : Value) (X Y : List Value) : Prop where
  own1 : wr.ownsRow base 3 1 (.slice (some ⟨g1, 0, none⟩) d1 d1) d1 X
  own2 : wr.ownsRow base 2 1 (.slice (some ⟨g2, 0, none⟩) d2 d2) d2 Y
  out : Out F W wr
  ok1 : F g1 ∨ W.heap.size ≤ g1
  ok2 : F g2 ∨ W.heap.size ≤ g2
  ne : g1 ≠ g2
  m1 : g1 ≠ hb
  m2 : g2 ≠ hb
  box : BoxA wr hb u v
section
variable {F : Nat → Prop} {W wr : World} {base hb g1 d1 g2 d2 : Nat} {u v : Value} {X Y : List Value}
theorem one_out (wr : World) (g k : Nat) (z : Value) : Out (fun q => q = g) wr (wr.setCell ⟨g, k, none⟩ z) := (Out.refl (fun q => q = g) wr).setCell (p := ⟨g, k, none⟩) (.inl rfl) z
theorem LayS.put1 (h : LayS F W wr base hb g1 d1 g2 d2 u v X Y) (k : Nat) (z : Value) : LayS F W (wr.setCell ⟨g1, k, none⟩ z) base hb g1 d1 g2 d2 u v (X.set k z) Y :=
  ⟨(h.own1.stored k z).1, (one_out wr g1 k z).own h.own2 (fun g hg e => h.ne (by simp [Value.ownBlock] at hg; omega)), h.out.setCell (p := ⟨g1, k, none⟩) h.ok1 z, h.ok1, h.ok2, h.ne, h.m1, h.m2, (one_out wr g1 k z).boxA h.box (fun e => h.m1 e.symm)⟩
theorem LayS.put2 (h : LayS F W wr base hb g1 d1 g2 d2 u v X Y) (k : Nat) (z : Value) : LayS F W (wr.setCell ⟨g2, k, none⟩ z) base hb g1 d1 g2 d2 u v X (Y.set k z) :=
  ⟨(one_out wr g2 k z).own h.own1 (fun g hg e => h.ne (by simp [Value.ownBlock] at hg; omega)), (h.own2.stored k z).1, h.out.setCell (p := ⟨g2, k, none⟩) h.ok2 z, h.ok1, h.ok2, h.ne, h.m1, h.m2, (one_out wr g2 k z).boxA h.box (fun e => h.m2 e.symm)⟩
theorem LayS.done (h : LayS F W wr base hb g1 d1 g2 d2 u v X Y) (hF : F hb) (hb0 : base ≤ hb) {S R : List Int} (hX : X = S.map (Value.int .i64)) (hY : Y = R.map (Value.int .i64)) :
    Hd.Is ⟨hb, some ⟨g1, 0, none⟩, d1, some ⟨g2, 0, none⟩, d2, S, R⟩ base ((wr.setCell ⟨hb, 0, none⟩ (.slice (some ⟨g1, 0, none⟩) d1 d1)).setCell ⟨hb, 1, none⟩ (.slice (some ⟨g2, 0, none⟩) d2 d2)) ∧
    Out F W ((wr.setCell ⟨hb, 0, none⟩ (.slice (some ⟨g1, 0, none⟩) d1 d1)).setCell ⟨hb, 1, none⟩ (.slice (some ⟨g2, 0, none⟩) d2 d2)) := by
  subst hX hY
  have ho := (one_out wr hb 0 (.slice (some ⟨g1, 0, none⟩) d1 d1)).setCell (p := ⟨hb, 1, none⟩) (.inl rfl) (.slice (some ⟨g2, 0, none⟩) d2 d2)
  refine ⟨⟨h.box.set _ _, ho.own h.own1 (fun g hg e => h.m1 (by simp [Value.ownBlock] at hg; omega)), ho.own h.own2 (fun g hg e => h.m2 (by simp [Value.ownBlock] at hg; omega)), hb0, ?_, ?_, ?_, .inr ⟨by simp, by simp⟩⟩,
    (h.out.setCell (p := ⟨hb, 0, none⟩) (.inl hF) _).setCell (p := ⟨hb, 1, none⟩) (.inl hF) _⟩
  · have := h.m1; simp [Value.ownBlock]; exact this
  · have := h.m2; simp [Value.ownBlock]; exact this
  · intro g hg e; have := h.ne; simp [Value.ownBlock] at hg e; omega
end
end Go.Proofs.Ytoippfoeghjdoaa

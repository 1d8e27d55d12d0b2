/- The memory in which a short array is handed in (abacuslaw3.Hand): Lay. -/
import Derived.Test.YtdedbfbkakofgaaShapeFreshM6
import Derived.Test.YtdedbfbkakofgaaShapeFreshM7
import Derived.Test.YtdedbfbkakofgaaShapeFreshM5
namespace Go.Proofs.Ytdedbfbkakofgaa
open Go.RowKit Go.Lib
set_option linter.unusedVariables false
set_option linter.unusedSimpArgs false
attribute [local go_sem] alloc_drewN setCell_drewN

/-- Lay: the array lies in the hand's memory, marks behind it; a long one is handed in as it is. -/
def LaidP (H : Hd) (A : Ar) (base : Nat) (w : World) (e : Ending) (w' : World) : Prop :=
  ∃ B : Ar, e = .returned B.v ∧ B.Is w' ∧ B.s = A.s ∧ B.a = A.a ∧ Out H.foot w w' ∧
    ∃ H' : Hd, H'.hb = H.hb ∧ (∀ k, H'.foot k → H.foot k ∨ w.heap.size ≤ k) ∧ H'.Is base w' ∧ Good A.s H'.S mkS ∧ Good A.a H'.A mkA ∧
      ∀ (F : Nat → Prop) (w2 : World), Out F w' w2 → (∀ j, H'.foot j → ¬ F j) → (∀ j, j < base → ¬ F j) → B.Is w2
theorem Hd.Is.gone {H : Hd} {base : Nat} {w : World} (h : H.Is base w) : Hd.Is ⟨H.hb, none, 0, none, 0, [], []⟩ base ((w.setCell ⟨H.hb, 0, none⟩ (.slice none 0 0)).setCell ⟨H.hb, 1, none⟩ (.slice none 0 0)) :=
  ⟨h.box.set _ _, World.ownsRow_nil _ _ _ _, World.ownsRow_nil _ _ _ _, h.le, by simp [Value.ownBlock], by simp [Value.ownBlock], fun g hg => by simp [Value.ownBlock] at hg, .inl ⟨rfl, rfl⟩⟩
theorem own_at {w : World} {base : Nat} {E : TypeId} {ao : Option Addr} {n c : Nat} {xs : List Value} (h : w.ownsRow base E 1 (.slice ao n c) n xs) (h0 : ao ≠ none) : ∃ g, ao = some ⟨g, 0, none⟩ := by
  rcases h.2 with ⟨h2, -⟩ | ⟨g, cap, cur, hv, -⟩
  · cases h2; exact absurd rfl h0
  · cases hv; exact ⟨g, rfl⟩
/-- The row behind its n first elements is filled with marks up to k. -/
def fl (f : Nat → Int) (n k : Nat) (xs : List Value) : List Value := (List.range xs.length).map fun j => if n ≤ j ∧ j < k then .int .i64 (f j) else xs.getD j undef
theorem fl_len (f : Nat → Int) (n k : Nat) (xs : List Value) : (fl f n k xs).length = xs.length := by simp [fl]
theorem fl_start (f : Nat → Int) (n : Nat) (xs : List Value) : fl f n n xs = xs := by
  refine List.ext_getElem (fl_len _ _ _ _) fun j h1 h2 => ?_
  simp only [fl, List.getElem_map, List.getElem_range]
  rw [if_neg (by omega), List.getD_eq_getElem?_getD, List.getElem?_eq_getElem h2]; rfl
theorem fl_set (f : Nat → Int) {n k : Nat} {xs : List Value} (hn : n ≤ k) (hk : k < xs.length) : (fl f n k xs).set k (.int .i64 (f k)) = fl f n (k + 1) xs := by
  refine List.ext_getElem (by rw [List.length_set, fl_len, fl_len]) fun j h1 h2 => ?_
  rw [List.getElem_set]
  simp only [fl, List.getElem_map, List.getElem_range]
  by_cases e : k = j
  · subst e; rw [if_pos rfl, if_pos ⟨hn, Nat.lt_succ_self _⟩]
  · rw [if_neg e]
    by_cases h : n ≤ j ∧ j < k
    · rw [if_pos h, if_pos ⟨h.1, by omega⟩]
    · rw [if_neg h, if_neg (by omega)]
/-- A list, marks behind it, d in all. -/
def mkd (f : Nat → Int) (s : List Int) (d : Nat) : List Int := (List.range d).map fun j => if j < s.length then s.getD j 0 else f j
theorem fl_end (f : Nat → Int) {s : List Int} {ys : List Value} {d : Nat} (hd : (s.map (Value.int .i64) ++ ys).length = d) : fl f s.length d (s.map (Value.int .i64) ++ ys) = (mkd f s d).map (Value.int .i64) := by
  refine List.ext_getElem (by rw [fl_len, hd]; simp [mkd]) fun j h1 h2 => ?_
  rw [fl_len, hd] at h1
  simp only [fl, mkd, List.getElem_map, List.getElem_range]
  by_cases h : j < s.length
  · rw [if_neg (by omega), if_pos h, List.getD_eq_getElem?_getD, List.getElem?_append_left (by simpa using h), getD_map_int _ _ h]; rfl
  · rw [if_pos ⟨by omega, h1⟩, if_neg h]
theorem mkd_good (f : Nat → Int) (s : List Int) (d : Nat) : Good s (mkd f s d) f := by
  intro i hi
  have hi' : i < d := by simpa [mkd] using hi
  simp only [mkd]
  rw [List.getD_eq_getElem?_getD, List.getElem?_map, List.getElem?_range hi']; rfl
theorem mkd_take (f : Nat → Int) {s : List Int} {d : Nat} (h : s.length ≤ d) : (mkd f s d).take s.length = s := by
  refine List.ext_getElem (by simp [mkd]; omega) fun j h1 h2 => ?_
  simp only [List.getElem_take, mkd, List.getElem_map, List.getElem_range]
  rw [if_pos h2, List.getD_eq_getElem?_getD, List.getElem?_eq_getElem h2]; rfl
theorem ls_of_full {w : World} {base : Nat} {E : TypeId} {g n d : Nat} {S s : List Int} (h : w.ownsRow base E 1 (.slice (some ⟨g, 0, none⟩) d d) d (S.map (Value.int .i64))) (hn : n ≤ d) (hs : S.take n = s) (hb : n * 8 ≤ 140737488351232)
    (hr : ∀ i, -9223372036854775808 ≤ s.getD i 0 ∧ s.getD i 0 ≤ 9223372036854775807) : Ls w (some ⟨g, 0, none⟩) n d s := by
  have hl := own_len h
  obtain ⟨-, hm, -⟩ := own_full h
  obtain ⟨g', e, -, hlt⟩ : ∃ g', some (⟨g, 0, none⟩ : Addr) = some ⟨g', 0, none⟩ ∧ base ≤ g' ∧ (n = 0 ∨ g' < w.heap.size) := by
    rcases Nat.eq_zero_or_pos n with h0 | h0
    · rcases h.2 with ⟨e, -⟩ | ⟨q, cap, cur, e, hq, -⟩
      · cases e
      · exact ⟨q, by cases e; rfl, hq, .inl h0⟩
    · obtain ⟨q, e, h1, h2⟩ := own_some h (by omega); exact ⟨q, e, h1, .inr h2⟩
  cases e
  refine ⟨by rw [← hs, List.length_take]; omega, hn, hb, hm, fun h0 => ⟨g, 0, rfl, by omega, fun i hi => ?_⟩, hr⟩
  rw [Nat.zero_add]
  refine (h.cellAt i (by omega)).trans ((getD_map_int S i (by omega)).trans ?_)
  rw [← hs]
  simp [List.getD, List.getElem?_take, hi]
/-- A row that has grown by an append: where it lies, what else has changed. -/
structure LayM (base : Nat) (T : TypeId) (WR wx : World) (v0 : Value) (bo : Option Addr) (n d : Nat) (xs : List Int) : Prop where
  own : wx.ownsRow base T 1 (.slice bo n d) n (xs.map (Value.int .i64))
  out : Out (fun k => v0.ownBlock = some k) WR wx
  loc : ∀ g, (Value.slice bo n d).ownBlock = some g → v0.ownBlock = some g ∨ WR.heap.size ≤ g
  ne : bo ≠ none
section
variable {base : Nat} {T : TypeId} {WR w3 w4 : World} {v0 : Value} {o : Obj} {b1 b2 : Option Addr} {n d1 d2 : Nat} {xs : List Int}
theorem lo_a1 (g1 : WR.drew.grownBy w3 v0.ownBlock) : Out (fun k => v0.ownBlock = some k) WR w3 := ((Out.refl _ WR).via (adrew1 WR)).grown g1 (fun k hk => .inl hk)
theorem lo_a2 (g1 : WR.drew.grownBy w3 v0.ownBlock) (l1 : ∀ g, (Value.slice b1 n d1).ownBlock = some g → v0.ownBlock = some g ∨ g = WR.drew.heap.size) (g2 : (w3.alloc o).grownBy w4 (Value.slice b1 n d1).ownBlock) : Out (fun k => v0.ownBlock = some k) WR w4 := by
  refine ((lo_a1 g1).alloc o).grown g2 fun k hk => ?_
  rcases l1 k hk with h | h
  · exact .inl h
  · exact .inr (by rw [h]; exact Nat.le_refl _)
theorem lo_b1 (g1 : (WR.alloc o).drew.grownBy w3 v0.ownBlock) : Out (fun k => v0.ownBlock = some k) WR w3 := (((Out.refl _ WR).alloc o).via (adrew1 _)).grown g1 (fun k hk => .inl hk)
theorem lo_bl (l1 : ∀ g, (Value.slice b1 n d1).ownBlock = some g → v0.ownBlock = some g ∨ g = (WR.alloc o).drew.heap.size) : ∀ g, (Value.slice b1 n d1).ownBlock = some g → v0.ownBlock = some g ∨ WR.heap.size ≤ g := fun g hg => by
  rcases l1 g hg with h | h
  · exact .inl h
  · right; rw [h, show (WR.alloc o).drew.heap.size = WR.heap.size + 1 by simp]; omega
theorem lo_b2 (g1 : (WR.alloc o).drew.grownBy w3 v0.ownBlock) (l1 : ∀ g, (Value.slice b1 n d1).ownBlock = some g → v0.ownBlock = some g ∨ g = (WR.alloc o).drew.heap.size) (g2 : w3.grownBy w4 (Value.slice b1 n d1).ownBlock) : Out (fun k => v0.ownBlock = some k) WR w4 :=
  (lo_b1 g1).grown g2 (lo_bl l1)
theorem lay_a (g1 : WR.drew.grownBy w3 v0.ownBlock) (l1 : ∀ g, (Value.slice b1 n d1).ownBlock = some g → v0.ownBlock = some g ∨ g = WR.drew.heap.size)
    (o2 : w4.ownsRow base T 1 (.slice b2 (n + 2) d2) (n + 2) (xs.map (Value.int .i64))) (g2 : (w3.alloc o).grownBy w4 (Value.slice b1 n d1).ownBlock) (l2 : ∀ g, (Value.slice b2 (n + 2) d2).ownBlock = some g → (Value.slice b1 n d1).ownBlock = some g ∨ g = (w3.alloc o).heap.size) (hne : 0 < 2 → b2 ≠ none) :
    LayM base T WR w4 v0 b2 (n + 2) d2 xs := by
  have hs : WR.heap.size ≤ w3.heap.size := g1.size
  refine ⟨o2, lo_a2 g1 l1 g2, ?_, hne (by omega)⟩
  intro g hg
  rcases l2 g hg with h | h
  · rcases l1 g h with h | h
    · exact .inl h
    · exact .inr (by rw [h]; exact Nat.le_refl _)
  · right; rw [h]; simp; omega
theorem lay_b (g1 : (WR.alloc o).drew.grownBy w3 v0.ownBlock) (l1 : ∀ g, (Value.slice b1 n d1).ownBlock = some g → v0.ownBlock = some g ∨ g = (WR.alloc o).drew.heap.size)
    (o2 : w4.ownsRow base T 1 (.slice b2 (n + 2) d2) (n + 2) (xs.map (Value.int .i64))) (g2 : w3.grownBy w4 (Value.slice b1 n d1).ownBlock) (l2 : ∀ g, (Value.slice b2 (n + 2) d2).ownBlock = some g → (Value.slice b1 n d1).ownBlock = some g ∨ g = w3.heap.size) (hne : 0 < 2 → b2 ≠ none) :
    LayM base T WR w4 v0 b2 (n + 2) d2 xs := by
  have hs : (WR.alloc o).heap.size ≤ w3.heap.size := g1.size
  simp at hs
  refine ⟨o2, lo_b2 g1 l1 g2, ?_, hne (by omega)⟩
  intro g hg
  rcases l2 g hg with h | h
  · exact lo_bl l1 g h
  · right; omega
end
theorem lit00 (w : World) (T : TypeId) : Ls (w.alloc (.cells #[.int .i64 0, .int .i64 0] T)) (some ⟨w.heap.size, 0, none⟩) 2 2 [0, 0] := by
  have h := ls_alloc w [0, 0] T (by simp) (fun i => by match i with | 0 => simp | 1 => simp | i + 2 => simp [List.getD])
  simpa using h
theorem lit00b {w w3 : World} {T : TypeId} {row : Option Nat} (hg : (w.alloc (.cells #[.int .i64 0, .int .i64 0] T)).drew.grownBy w3 row) (hr : ∀ k, row = some k → k < w.heap.size) : Ls w3 (some ⟨w.heap.size, 0, none⟩) 2 2 [0, 0] := by
  have h := lit00 w T
  refine ⟨h.len, h.cap, h.big, h.top, fun h0 => ?_, h.rng⟩
  obtain ⟨b, off, e, hlt, hc⟩ := h.mem h0
  cases e
  have hs := hg.size
  simp at hs hlt
  refine ⟨_, _, rfl, by omega, fun i hi => ?_⟩
  refine (World.cell?_of_block (hg.block _ (by simp) (fun e => ?_))).trans (hc i hi)
  have h5 := hr _ e.symm
  simp only at h5
  omega
def rowV (t : List Int) (X : List Value) : List Value := (t ++ [0, 0]).map (Value.int .i64) ++ X
theorem rowV_len (t : List Int) (X : List Value) : (rowV t X).length = t.length + 2 + X.length := by simp [rowV]; omega
theorem rowV_end (f : Nat → Int) {t : List Int} {X : List Value} {n d : Nat} (hn : t.length = n) (hd : (rowV t X).length = d) : fl f n d (rowV t X) = (mkd f t d).map (Value.int .i64) := by
  subst hn
  have e : rowV t X = t.map (Value.int .i64) ++ (([0, 0] : List Int).map (Value.int .i64) ++ X) := by simp [rowV]
  rw [e] at hd ⊢
  exact fl_end f hd
/-- Both rows at their whole length, the header not yet written. -/
structure LayS (F : Nat → Prop) (W wr : World) (base hb g1 d1 g2 d2 : Nat) (u v : Value) (X Y : List Value) : Prop where
  own1 : wr.ownsRow base 3 1 (.slice (some ⟨g1, 0, none⟩) d1 d1) d1 X
  own2 : wr.ownsRow base 2 1 (.slice (some ⟨g2, 0, none⟩) d2 d2) d2 Y
  out : Out F W wr
  ok1 : F g1 ∨ W.heap.size ≤ g1
  ok2 : F g2 ∨ W.heap.size ≤ g2
  ne : g1 ≠ g2
  m1 : g1 ≠ hb
  m2 : g2 ≠ hb
  box : BoxA wr hb u v
section
variable {F : Nat → Prop} {W wr : World} {base hb g1 d1 g2 d2 : Nat} {u v : Value} {X Y : List Value}
theorem one_out (wr : World) (g k : Nat) (z : Value) : Out (fun q => q = g) wr (wr.setCell ⟨g, k, none⟩ z) := (Out.refl (fun q => q = g) wr).setCell (p := ⟨g, k, none⟩) (.inl rfl) z
theorem LayS.put1 (h : LayS F W wr base hb g1 d1 g2 d2 u v X Y) (k : Nat) (z : Value) : LayS F W (wr.setCell ⟨g1, k, none⟩ z) base hb g1 d1 g2 d2 u v (X.set k z) Y :=
  ⟨(h.own1.stored k z).1, (one_out wr g1 k z).own h.own2 (fun g hg e => h.ne (by simp [Value.ownBlock] at hg; omega)), h.out.setCell (p := ⟨g1, k, none⟩) h.ok1 z, h.ok1, h.ok2, h.ne, h.m1, h.m2, (one_out wr g1 k z).boxA h.box (fun e => h.m1 e.symm)⟩
theorem LayS.put2 (h : LayS F W wr base hb g1 d1 g2 d2 u v X Y) (k : Nat) (z : Value) : LayS F W (wr.setCell ⟨g2, k, none⟩ z) base hb g1 d1 g2 d2 u v X (Y.set k z) :=
  ⟨(one_out wr g2 k z).own h.own1 (fun g hg e => h.ne (by simp [Value.ownBlock] at hg; omega)), (h.own2.stored k z).1, h.out.setCell (p := ⟨g2, k, none⟩) h.ok2 z, h.ok1, h.ok2, h.ne, h.m1, h.m2, (one_out wr g2 k z).boxA h.box (fun e => h.m2 e.symm)⟩
theorem LayS.done (h : LayS F W wr base hb g1 d1 g2 d2 u v X Y) (hF : F hb) (hb0 : base ≤ hb) {S R : List Int} (hX : X = S.map (Value.int .i64)) (hY : Y = R.map (Value.int .i64)) :
    Hd.Is ⟨hb, some ⟨g1, 0, none⟩, d1, some ⟨g2, 0, none⟩, d2, S, R⟩ base ((wr.setCell ⟨hb, 0, none⟩ (.slice (some ⟨g1, 0, none⟩) d1 d1)).setCell ⟨hb, 1, none⟩ (.slice (some ⟨g2, 0, none⟩) d2 d2)) ∧
    Out F W ((wr.setCell ⟨hb, 0, none⟩ (.slice (some ⟨g1, 0, none⟩) d1 d1)).setCell ⟨hb, 1, none⟩ (.slice (some ⟨g2, 0, none⟩) d2 d2)) := by
  subst hX hY
  have ho := (one_out wr hb 0 (.slice (some ⟨g1, 0, none⟩) d1 d1)).setCell (p := ⟨hb, 1, none⟩) (.inl rfl) (.slice (some ⟨g2, 0, none⟩) d2 d2)
  refine ⟨⟨h.box.set _ _, ho.own h.own1 (fun g hg e => h.m1 (by simp [Value.ownBlock] at hg; omega)), ho.own h.own2 (fun g hg e => h.m2 (by simp [Value.ownBlock] at hg; omega)), hb0, ?_, ?_, ?_, .inr ⟨by simp, by simp⟩⟩,
    (h.out.setCell (p := ⟨hb, 0, none⟩) (.inl hF) _).setCell (p := ⟨hb, 1, none⟩) (.inl hF) _⟩
  · have := h.m1; simp [Value.ownBlock]; exact this
  · have := h.m2; simp [Value.ownBlock]; exact this
  · intro g hg e; have := h.ne; simp [Value.ownBlock] at hg e; omega
end
set_option maxRecDepth 100000 in
set_option maxHeartbeats 1600000 in
theorem lay_long {w0 w : World} {H : Hd} {A : Ar} (hA : A.Is w0) (hv : Below w0.heap.size w0 w) (hH : H.Is w0.heap.size w) (hs : shB A = false) :
    Calls Try.prog 34 #[.pointer (some ⟨H.hb, 0, none⟩), A.v] w (LaidP H A w0.heap.size w) := by
  have hgone : ∀ w1, Below w.heap.size w w1 → Hd.Is ⟨H.hb, none, 0, none, 0, [], []⟩ w0.heap.size ((w1.setCell ⟨H.hb, 0, none⟩ (.slice none 0 0)).setCell ⟨H.hb, 1, none⟩ (.slice none 0 0)) := fun w1 hb => (hH.via hb).gone
  have hle := hH.le
  obtain ⟨ta, tn, tc, ba, bn, bc, t, b⟩ := A
  obtain ⟨hb, sa, sn, aa, an, S, R⟩ := H
  simp only [Ar.v] at hgone hle ⊢
  have HLE := Lib.hid hle
  have HA0 := Lib.hid hA
  have HV := Lib.hid hv
  obtain ⟨W, HW⟩ : ∃ z, Hid ((w.alloc (.cells #[.slice ta tn tc, .slice ba bn bc] 55)).alloc (.cells #[.slice none 0 0, .slice none 0 0] 55) = z) := ⟨_, rfl⟩
  have hw : Below w.heap.size w W := by rw [← HW.out]; exact abvia (abal _ _) (abal _ _)
  have BY : BoxA W w.heap.size (.slice ta tn tc) (.slice ba bn bc) := by rw [← HW.out]; exact (BoxA.new _ _ _ _).via (abal _ _)
  have BZ : BoxA W (w.heap.size + 1) (.slice none 0 0) (.slice none 0 0) := by rw [← HW.out]; simpa using BoxA.new (w.alloc (.cells #[.slice ta tn tc, .slice ba bn bc] 55)) 55 (.slice none 0 0) (.slice none 0 0)
  have hAW := hA.below (hv.trans (hw.mono hv.size)) (Nat.le_refl _)
  have C := Lib.hid (short_any hAW)
  simp only [Ar.v, hs] at C
  have HWB := Lib.hid hw
  have Y1 := Lib.hid BY
  have Z1 := Lib.hid BZ
  have H1 := Lib.hid (hH.via hw)
  have HG := Lib.hid hgone
  have IA := Lib.hid hAW
  have HLT := Lib.hid hH.box.lt
  have HV0 : Hid (Below W.heap.size W W) := Below.refl _ _
  obtain ⟨y0, y1, -, -, -⟩ := BY
  clear hA hv hH hs hw BZ hAW hgone hle
  go_enter Try.func34, Try.ntmps34
  go_wp2_with fail
  rw [HW.out]
  refine (C.out).mono ?_; rintro e w1 ⟨rfl, hbq⟩
  have HV1 := Lib.hid (abvia HV0.out hbq)
  clear hbq
  try clear y0 y1
  obtain ⟨y0, y1, -, -, -⟩ := Y1.out.via HV1.out
  try clear z0 z1 z2 z3 z4
  obtain ⟨z0, z1, z2, z3, z4⟩ := Z1.out.via HV1.out
  have q0 := (H1.out.via HV1.out).box
  simp only at q0
  obtain ⟨x0, x1, x2, x3, x4⟩ := q0
  have n1 : ¬ hb = w.heap.size := by have := HLT.out; omega
  have n2 : ¬ w.heap.size = hb := by have := HLT.out; omega
  have n3 : ¬ hb = w.heap.size + 1 := by have := HLT.out; omega
  have n4 : ¬ w.heap.size + 1 = hb := by have := HLT.out; omega
  have HE : Hid (LaidP ⟨hb, sa, sn, aa, an, S, R⟩ ⟨ta, tn, tc, ba, bn, bc, t, b⟩ w0.heap.size w (.returned (.agg #[.slice ta tn tc, .slice ba bn bc])) ((((w1.setCell ⟨hb, 0, none⟩ (.slice none 0 0)).setCell ⟨hb, 1, none⟩ (.slice none 0 0)).setCell ⟨w.heap.size + 1, 0, none⟩ (.slice ta tn tc)).setCell ⟨w.heap.size + 1, 1, none⟩ (.slice ba bn bc))) := by
    have hWs : W.heap.size = w.heap.size + 2 := by rw [← HW.out]; simp
    have hb1 := HV1.out.size
    have ho : Out (Hd.foot ⟨hb, sa, sn, aa, an, S, R⟩) w w1 := .of (abvia HWB.out HV1.out)
    have f0 : Hd.foot ⟨hb, sa, sn, aa, an, S, R⟩ hb := Or.inl rfl
    have ho2 := (((ho.setCell (p := ⟨hb, 0, none⟩) (.inl f0) (.slice none 0 0)).setCell (p := ⟨hb, 1, none⟩) (.inl f0) (.slice none 0 0)).setCell (p := ⟨w.heap.size + 1, 0, none⟩) (.inr (by simp)) (.slice ta tn tc)).setCell (p := ⟨w.heap.size + 1, 1, none⟩) (.inr (by simp)) (.slice ba bn bc)
    have hg := HG.out w1 (abvia HWB.out HV1.out)
    have hz : Out (fun k => k = w.heap.size + 1) ((w1.setCell ⟨hb, 0, none⟩ (.slice none 0 0)).setCell ⟨hb, 1, none⟩ (.slice none 0 0)) ((((w1.setCell ⟨hb, 0, none⟩ (.slice none 0 0)).setCell ⟨hb, 1, none⟩ (.slice none 0 0)).setCell ⟨w.heap.size + 1, 0, none⟩ (.slice ta tn tc)).setCell ⟨w.heap.size + 1, 1, none⟩ (.slice ba bn bc)) :=
      (((Out.refl (fun k => k = w.heap.size + 1) _).setCell (p := ⟨w.heap.size + 1, 0, none⟩) (.inl rfl) _).setCell (p := ⟨w.heap.size + 1, 1, none⟩) (.inl rfl) _)
    have hIE : Ar.Is ⟨ta, tn, tc, ba, bn, bc, t, b⟩ ((((w1.setCell ⟨hb, 0, none⟩ (.slice none 0 0)).setCell ⟨hb, 1, none⟩ (.slice none 0 0)).setCell ⟨w.heap.size + 1, 0, none⟩ (.slice ta tn tc)).setCell ⟨w.heap.size + 1, 1, none⟩ (.slice ba bn bc)) ∧ Below w0.heap.size w0 ((((w1.setCell ⟨hb, 0, none⟩ (.slice none 0 0)).setCell ⟨hb, 1, none⟩ (.slice none 0 0)).setCell ⟨w.heap.size + 1, 0, none⟩ (.slice ta tn tc)).setCell ⟨w.heap.size + 1, 1, none⟩ (.slice ba bn bc)) := by
      have hle := HLE.out
      have hbw : Below w0.heap.size W w1 := HV1.out.mono (by have := HV.out.size; omega)
      have hbb := (((hbw.setCell (p := ⟨hb, 0, none⟩) hle (.slice none 0 0)).setCell (p := ⟨hb, 1, none⟩) hle (.slice none 0 0)).setCell (p := ⟨w.heap.size + 1, 0, none⟩) (by have := HV.out.size; simp only; omega) (.slice ta tn tc)).setCell (p := ⟨w.heap.size + 1, 1, none⟩) (by have := HV.out.size; simp only; omega) (.slice ba bn bc)
      have hq := (HV.out.trans (HWB.out.mono HV.out.size)).trans hbb
      exact ⟨HA0.out.below hq (Nat.le_refl _), hq⟩
    refine ⟨⟨ta, tn, tc, ba, bn, bc, t, b⟩, rfl, hIE.1, rfl, rfl, ho2, ⟨hb, none, 0, none, 0, [], []⟩, rfl, ?_, hg.out hz ?_, ?_, ?_, ?_⟩
    · intro k hk
      rcases hk with hk | hk | hk
      · exact .inl (Or.inl hk)
      · simp [Value.ownBlock] at hk
      · simp [Value.ownBlock] at hk
    · intro k hk e
      rcases hk with hk | hk | hk
      · simp only at hk; omega
      · simp [Value.ownBlock] at hk
      · simp [Value.ownBlock] at hk
    · intro i hi; simp at hi
    · intro i hi; simp at hi
    · intro F w2 ho3 _ hF
      have hs3 := hIE.2.size
      exact HA0.out.below (hIE.2.trans ⟨ho3.os, ho3.tape, ho3.output, ho3.size, fun j hj => ho3.block j (by omega) (hF j hj)⟩) (Nat.le_refl _)
  go_wp2_with fail
  exact bodyPost_ret (v := .agg #[.slice ta tn tc, .slice ba bn bc]) (by simp [results, Try.results34, go_sem, *]) rfl HE.out
set_option maxRecDepth 100000 in
set_option maxHeartbeats 1600000 in
theorem lay_short {w0 w : World} {H : Hd} {A : Ar} (hA : A.Is w0) (hv : Below w0.heap.size w0 w) (hH : H.Is w0.heap.size w) (hs : shB A = true) :
    Calls Try.prog 34 #[.pointer (some ⟨H.hb, 0, none⟩), A.v] w (LaidP H A w0.heap.size w) := by
  obtain ⟨ta, tn, tc, ba, bn, bc, t, b⟩ := A
  obtain ⟨hb, sa, sn, aa, an, S, R⟩ := H
  simp only [Ar.v] at ⊢
  have HA0 := Lib.hid hA
  have HV := Lib.hid hv
  have HFL := Lib.hid (fun k (hk : Hd.foot ⟨hb, sa, sn, aa, an, S, R⟩ k) => hH.foot_lt hk)
  obtain ⟨W, HW⟩ : ∃ z, Hid ((w.alloc (.cells #[.slice ta tn tc, .slice ba bn bc] 55)).alloc (.cells #[.slice none 0 0, .slice none 0 0] 55) = z) := ⟨_, rfl⟩
  have hw : Below w.heap.size w W := by rw [← HW.out]; exact abvia (abal _ _) (abal _ _)
  have BY : BoxA W w.heap.size (.slice ta tn tc) (.slice ba bn bc) := by rw [← HW.out]; exact (BoxA.new _ _ _ _).via (abal _ _)
  have BZ : BoxA W (w.heap.size + 1) (.slice none 0 0) (.slice none 0 0) := by rw [← HW.out]; simpa using BoxA.new (w.alloc (.cells #[.slice ta tn tc, .slice ba bn bc] 55)) 55 (.slice none 0 0) (.slice none 0 0)
  have hAW := hA.below (hv.trans (hw.mono hv.size)) (Nat.le_refl _)
  have C := Lib.hid (short_any hAW)
  simp only [Ar.v, hs] at C
  have HWB := Lib.hid hw
  have Y1 := Lib.hid BY
  have Z1 := Lib.hid BZ
  have H1 := Lib.hid (hH.via hw)
  have IA := Lib.hid hAW
  have HLT := Lib.hid hH.box.lt
  have HV0 : Hid (Below W.heap.size W W) := Below.refl _ _
  obtain ⟨y0, y1, -, -, -⟩ := BY
  have hsb : tn ≤ 5000 ∧ bn ≤ 5000 := by simpa [shB] using hs
  obtain ⟨hsb1, hsb2⟩ := hsb
  clear hA hv hH hs hw BZ hAW
  go_enter Try.func34, Try.ntmps34
  go_wp2_with fail
  rw [HW.out]
  refine (C.out).mono ?_; rintro e w1 ⟨rfl, hbq⟩
  have HV1 := Lib.hid (abvia HV0.out hbq)
  clear hbq
  try clear y0 y1
  obtain ⟨y0, y1, -, -, -⟩ := Y1.out.via HV1.out
  try clear z0 z1 z2 z3 z4
  obtain ⟨z0, z1, z2, z3, z4⟩ := Z1.out.via HV1.out
  have q0 := (H1.out.via HV1.out).box
  simp only at q0
  obtain ⟨x0, x1, x2, x3, x4⟩ := q0
  have n1 : ¬ hb = w.heap.size := by have := HLT.out; omega
  have n2 : ¬ w.heap.size = hb := by have := HLT.out; omega
  have n3 : ¬ hb = w.heap.size + 1 := by have := HLT.out; omega
  have n4 : ¬ w.heap.size + 1 = hb := by have := HLT.out; omega
  have q1 : IntKind.i64.wrap ((tn : Int) + 70000) = tn + 70000 := IntWalk.i64_in _ (by omega)
  have q2 : IntKind.i64.wrap ((bn : Int) + 70000) = bn + 70000 := IntWalk.i64_in _ (by omega)
  have HK := H1.out.alt
  simp only at HK
  have HALL : Hid (Hd.Is ⟨hb, sa, sn, aa, an, S, R⟩ w0.heap.size w1) := H1.out.via HV1.out
  have HWs : Hid (W.heap.size = w.heap.size + 2) := by show _ = _; rw [← HW.out]; simp
  have hcase : (sa = none ∧ aa = none ∧ sn = 0 ∧ an = 0) ∨ (sa ≠ none ∧ aa ≠ none ∧ (tn : Int) + 70000 < sn) ∨ (sa ≠ none ∧ aa ≠ none ∧ (sn : Int) ≤ (tn : Int) + 70000 ∧ (bn : Int) + 70000 < an) ∨ (sa ≠ none ∧ aa ≠ none ∧ (sn : Int) ≤ (tn : Int) + 70000 ∧ (an : Int) ≤ (bn : Int) + 70000) := by
    rcases HK with ⟨e1, e2⟩ | ⟨e1, e2⟩
    · exact .inl ⟨e1, e2, (own_zero H1.out.shp e1).1, (own_zero H1.out.ats e2).1⟩
    · by_cases h1 : (tn : Int) + 70000 < sn
      · exact .inr (.inl ⟨e1, e2, h1⟩)
      · by_cases h2 : (bn : Int) + 70000 < an
        · exact .inr (.inr (.inl ⟨e1, e2, by omega, h2⟩))
        · exact .inr (.inr (.inr ⟨e1, e2, by omega, by omega⟩))
  clear HK
  rcases hcase with ⟨e1, e2, e3, e4⟩ | ⟨e1, e2, e3⟩ | ⟨e1, e2, e3, e4⟩ | ⟨e1, e2, e3, e4⟩
  · subst e1 e2 e3 e4
    have z1 : decide ((tn : Int) + 70000 < 0) = false := decide_eq_false (by omega)
    have z2 : decide ((bn : Int) + 70000 < 0) = false := decide_eq_false (by omega)
    go_wp2_with fail
    go_quiet (fail)
    go_upto_region 6 with (fail)
    obtain ⟨WR, HWR⟩ : ∃ z, Hid ((w1.drewN nq) = z) := ⟨_, rfl⟩
    rw [HWR.out]
    have HN : Hid (Hd.Is ⟨hb, none, 0, none, 0, S, R⟩ w0.heap.size WR) := by
      show Hd.Is _ _ _
      rw [← HWR.out]
      exact HALL.out.via (adrew _ _)
    have HO : Hid (Out (Hd.foot ⟨hb, none, 0, none, 0, S, R⟩) W WR) := by
      show Out _ _ _
      rw [← HWR.out]
      exact (Out.of HV1.out).via (adrew _ _)
    have HFT : Hid (∀ k, Hd.foot ⟨hb, none, 0, none, 0, S, R⟩ k → w0.heap.size ≤ k ∧ k < w.heap.size) := fun k hk => HFL.out k hk
    have HNF : Hid (∀ k, Hd.foot ⟨hb, none, 0, none, 0, S, R⟩ k → Hd.foot ⟨hb, none, 0, none, 0, S, R⟩ k) := by
      intro k hk
      exact hk
    have HYW : Hid (BoxA WR w.heap.size (.slice ta tn tc) (.slice ba bn bc)) := HO.out.boxA Y1.out (fun hk => by have := (HFT.out _ hk).2; omega)
    have HZW : Hid (BoxA WR (w.heap.size + 1) (.slice none 0 0) (.slice none 0 0)) := HO.out.boxA Z1.out (fun hk => by have := (HFT.out _ hk).2; omega)
    have HIA : Hid (Ar.Is ⟨ta, tn, tc, ba, bn, bc, t, b⟩ WR) := by
      have hz : Below w0.heap.size W WR := HO.out.toBelow (fun k hk => (HFT.out k hk).1) (by have := HWs.out; have := HV.out.size; omega)
      exact HA0.out.below ((HV.out.trans (HWB.out.mono HV.out.size)).trans hz) (Nat.le_refl _)
    clear x0 x1 x2 x3 x4 y0 y1 z0 z1 z2 z3 z4
    obtain ⟨y0, y1, -, -, -⟩ := HYW.out
    have q0 := HN.out.box
    simp only at q0
    obtain ⟨x0, x1, x2, x3, x4⟩ := q0
    have HIWR := HIA
    have HSWR : Hid (w0.heap.size ≤ WR.heap.size) := by show _ ≤ _; have := HWs.out; have := HV.out.size; have := HO.out.size; omega
    have HXWR : Hid (BoxA WR hb (.slice none 0 0) (.slice none 0 0)) := HN.out.box
    have HEWR : Hid ((Value.slice none 0 0).ownBlock ≠ some hb) := HN.out.n1
    have HYWR := HYW
    have HGWR : Hid ((Value.slice none 0 0).ownBlock ≠ some w.heap.size) := fun e => by
      have := (HFT.out _ (HNF.out _ (Or.inr (Or.inl e)))).2; omega
    obtain ⟨iWR, hiWR, hz0WR, hz1WR, hz2WR⟩ := info_parts (P := Try.prog) (e := 3) (z := .int .i64 0) (size := 1) (bytes := 8) (by kernel_rfl)
    have HOA : Hid (WR.drew.ownsRow w0.heap.size 3 1 (.slice none 0 0) 0 []) := (own_shut HN.out.shp).drew
    have HOB : Hid ((WR.alloc (.cells #[.int .i64 0, .int .i64 0] 3)).drew.ownsRow w0.heap.size 3 1 (.slice none 0 0) 0 []) := ((own_shut HN.out.shp).alloc _).drew
    have HLA : Hid (Ls WR.drew ta tn tc t) := (HIWR.out.shp.drew 1)
    have HLB : Hid (Ls (WR.alloc (.cells #[.int .i64 0, .int .i64 0] 3)).drew ta tn tc t) := (HIWR.out.shp.via (abal _ _)).drew 1
    have HBA : Hid (w0.heap.size ≤ WR.drew.heap.size) := HSWR
    have HBB : Hid (w0.heap.size ≤ (WR.alloc (.cells #[.int .i64 0, .int .i64 0] 3)).drew.heap.size) := by show _ ≤ _; have := HSWR.out; simp at this ⊢; omega
    have HRW : Hid (∀ k, (Value.slice none 0 0).ownBlock = some k → k < WR.heap.size) := fun k hk => (own_block (own_shut HN.out.shp) hk).2
    have KC : Hid (∀ wx, Out (fun k => (Value.slice none 0 0).ownBlock = some k) WR wx → wx.cell? ⟨hb, 0, none⟩ = some (.slice none 0 0) ∧ wx.cell? ⟨w.heap.size, 0, none⟩ = some (.slice ta tn tc)) := by
      intro wx ho
      exact ⟨(ho.boxA HXWR.out (fun e => HEWR.out e)).c0, (ho.boxA HYWR.out (fun e => HGWR.out e)).c0⟩
    have hbd : tn * 8 ≤ 140737488355328 := by omega
    have hbd2 : (tn + 2) * 8 ≤ 140737488355328 := by omega
    have hc0 : (0 : Int) ≤ 0 := by omega
    go_cut [5] from 47 to 56 (fun v5 wx => ∃ bo d, v5 = .slice bo (tn + 2) d ∧ Hid (LayM w0.heap.size 3 WR wx (.slice none 0 0) bo (tn + 2) d (t ++ [0, 0])))
    case first =>
      go_region_held3 (fun w' => w'.cell? ⟨hb, 0, none⟩ = some (.slice none 0 0) ∧ w'.cell? ⟨w.heap.size, 0, none⟩ = some (.slice ta tn tc)) (first | go_keep | exact KC.out _ (lo_a1 hg1) | exact KC.out _ ((lo_a1 hg1).alloc _) | exact KC.out _ (lo_b1 hg1) | exact KC.out _ (lo_a2 hg1 hl1 hg2) | exact KC.out _ (lo_b2 hg1 hl1 hg2))
        (first
        | ((refine step_append_loc0 _ (by rfl) _ _ 25 (by rfl) w0.heap.size 3 iWR Try.underlying25 hiWR hz0WR hz1WR hz2WR _ (by rfl) HOA.out (by rfl) HLA.out hbd HBA.out ?_); intro b1 d1 w3 ho1 hg1 hl1 hn1)
        | ((refine step_append_loc0 _ (by rfl) _ _ 25 (by rfl) w0.heap.size 3 iWR Try.underlying25 hiWR hz0WR hz1WR hz2WR _ (by rfl) HOB.out (by rfl) HLB.out hbd HBB.out ?_); intro b1 d1 w3 ho1 hg1 hl1 hn1)
        | ((refine step_append_loc _ (by rfl) _ _ 25 (by rfl) w0.heap.size 3 iWR Try.underlying25 hiWR hz0WR hz1WR hz2WR _ tn t (by rfl) (ho1.alloc _) (by rfl) (lit00 _ _) hbd2 (Nat.le_trans HBA.out (Nat.le_trans hg1.size (by simp))) ?_); intro b2 d2 w4 ho2 hg2 hl2 hn2)
        | ((refine step_append_loc _ (by rfl) _ _ 25 (by rfl) w0.heap.size 3 iWR Try.underlying25 hiWR hz0WR hz1WR hz2WR _ tn t (by rfl) ho1 (by rfl) (lit00b hg1 HRW.out) hbd2 (Nat.le_trans HBB.out hg1.size) ?_); intro b2 d2 w4 ho2 hg2 hl2 hn2))
      all_goals go_wp2_with fail
      all_goals go_meet
      all_goals first
        | exact ⟨_, _, rfl, lay_a hg1 hl1 ho2 hg2 hl2 hn2⟩
        | exact ⟨_, _, rfl, lay_b hg1 hl1 ho2 hg2 hl2 hn2⟩
    case rest =>
      obtain ⟨bo, d1, rfl, HM⟩ := hcut
      obtain ⟨WS, hq⟩ : ∃ z : World, z = wc := ⟨_, rfl⟩
      subst hq
      obtain ⟨g1, rfl⟩ := own_at HM.out.own HM.out.ne
      have HNB : Hid (∀ g, (Value.slice none 0 0).ownBlock = some g → ¬ (Value.slice none 0 0).ownBlock = some g) := fun g hg e => HN.out.ne g e hg
      have HOW2 : Hid (WS.ownsRow w0.heap.size 2 1 (.slice none 0 0) 0 (R.map (Value.int .i64))) := HM.out.out.own HN.out.ats (fun g hg => HNB.out g hg)
      have HXWS : Hid (BoxA WS hb (.slice none 0 0) (.slice none 0 0)) := HM.out.out.boxA HXWR.out HEWR.out
      have HYWS : Hid (BoxA WS w.heap.size (.slice ta tn tc) (.slice ba bn bc)) := HM.out.out.boxA HYWR.out HGWR.out
      have HZWS : Hid (BoxA WS (w.heap.size + 1) (.slice none 0 0) (.slice none 0 0)) := HM.out.out.boxA HZW.out (fun e => by
        have := (HFT.out _ (HNF.out _ (Or.inr (Or.inl e)))).2; omega)
      have HEWS : Hid ((Value.slice none 0 0).ownBlock ≠ some hb) := HN.out.n2
      have HGWS : Hid ((Value.slice none 0 0).ownBlock ≠ some w.heap.size) := fun e => by
        have := (HFT.out _ (HNF.out _ (Or.inr (Or.inr e)))).2; omega
      have HOWS : Hid (Out (Hd.foot ⟨hb, none, 0, none, 0, S, R⟩) W WS) := HO.out.trans HM.out.out (fun i hi e => HNF.out _ (Or.inr (Or.inl e)))
      have HSWS : Hid (w0.heap.size ≤ WS.heap.size) := Nat.le_trans HSWR.out HM.out.out.size
      have HIWS : Hid (Ar.Is ⟨ta, tn, tc, ba, bn, bc, t, b⟩ WS) := by
        have hz : Below w0.heap.size W WS := HOWS.out.toBelow (fun k hk => (HFT.out k hk).1) (by have := HWs.out; have := HV.out.size; omega)
        exact HA0.out.below ((HV.out.trans (HWB.out.mono HV.out.size)).trans hz) (Nat.le_refl _)
      clear x0 x1 x2 x3 x4 y0 y1 hc0 hbd hbd2 HOA HOB HLA HLB HBA HBB HRW KC
      obtain ⟨y0, y1, -, -, -⟩ := HYWS.out
      obtain ⟨x0, x1, x2, x3, x4⟩ := HXWS.out
      obtain ⟨iWS, hiWS, hz0WS, hz1WS, hz2WS⟩ := info_parts (P := Try.prog) (e := 2) (z := .int .i64 0) (size := 1) (bytes := 8) (by kernel_rfl)
      have HOA : Hid (WS.drew.ownsRow w0.heap.size 2 1 (.slice none 0 0) 0 []) := (own_shut HOW2.out).drew
      have HOB : Hid ((WS.alloc (.cells #[.int .i64 0, .int .i64 0] 2)).drew.ownsRow w0.heap.size 2 1 (.slice none 0 0) 0 []) := ((own_shut HOW2.out).alloc _).drew
      have HLA : Hid (Ls WS.drew ba bn bc b) := (HIWS.out.ats.drew 1)
      have HLB : Hid (Ls (WS.alloc (.cells #[.int .i64 0, .int .i64 0] 2)).drew ba bn bc b) := (HIWS.out.ats.via (abal _ _)).drew 1
      have HBA : Hid (w0.heap.size ≤ WS.drew.heap.size) := HSWS
      have HBB : Hid (w0.heap.size ≤ (WS.alloc (.cells #[.int .i64 0, .int .i64 0] 2)).drew.heap.size) := by show _ ≤ _; have := HSWS.out; simp at this ⊢; omega
      have HRW : Hid (∀ k, (Value.slice none 0 0).ownBlock = some k → k < WS.heap.size) := fun k hk => (own_block (own_shut HOW2.out) hk).2
      have KC : Hid (∀ wx, Out (fun k => (Value.slice none 0 0).ownBlock = some k) WS wx → wx.cell? ⟨hb, 1, none⟩ = some (.slice none 0 0) ∧ wx.cell? ⟨w.heap.size, 1, none⟩ = some (.slice ba bn bc)) := by
        intro wx ho
        exact ⟨(ho.boxA HXWS.out (fun e => HEWS.out e)).c1, (ho.boxA HYWS.out (fun e => HGWS.out e)).c1⟩
      have hbd : bn * 8 ≤ 140737488355328 := by omega
      have hbd2 : (bn + 2) * 8 ≤ 140737488355328 := by omega
      have hc0 : (0 : Int) ≤ 0 := by omega
      go_upto_region 7 with (fail)
      go_cut [6] from 57 to 66 (fun v5 wx => ∃ bo d, v5 = .slice bo (bn + 2) d ∧ Hid (LayM w0.heap.size 2 WS wx (.slice none 0 0) bo (bn + 2) d (b ++ [0, 0])))
      case first =>
        go_region_held3 (fun w' => w'.cell? ⟨hb, 1, none⟩ = some (.slice none 0 0) ∧ w'.cell? ⟨w.heap.size, 1, none⟩ = some (.slice ba bn bc)) (first | go_keep | exact KC.out _ (lo_a1 hg1) | exact KC.out _ ((lo_a1 hg1).alloc _) | exact KC.out _ (lo_b1 hg1) | exact KC.out _ (lo_a2 hg1 hl1 hg2) | exact KC.out _ (lo_b2 hg1 hl1 hg2))
          (first
          | ((refine step_append_loc0 _ (by rfl) _ _ 50 (by rfl) w0.heap.size 2 iWS Try.underlying50 hiWS hz0WS hz1WS hz2WS _ (by rfl) HOA.out (by rfl) HLA.out hbd HBA.out ?_); intro b1 d1 w3 ho1 hg1 hl1 hn1)
          | ((refine step_append_loc0 _ (by rfl) _ _ 50 (by rfl) w0.heap.size 2 iWS Try.underlying50 hiWS hz0WS hz1WS hz2WS _ (by rfl) HOB.out (by rfl) HLB.out hbd HBB.out ?_); intro b1 d1 w3 ho1 hg1 hl1 hn1)
          | ((refine step_append_loc _ (by rfl) _ _ 50 (by rfl) w0.heap.size 2 iWS Try.underlying50 hiWS hz0WS hz1WS hz2WS _ bn b (by rfl) (ho1.alloc _) (by rfl) (lit00 _ _) hbd2 (Nat.le_trans HBA.out (Nat.le_trans hg1.size (by simp))) ?_); intro b2 d2 w4 ho2 hg2 hl2 hn2)
          | ((refine step_append_loc _ (by rfl) _ _ 50 (by rfl) w0.heap.size 2 iWS Try.underlying50 hiWS hz0WS hz1WS hz2WS _ bn b (by rfl) ho1 (by rfl) (lit00b hg1 HRW.out) hbd2 (Nat.le_trans HBB.out hg1.size) ?_); intro b2 d2 w4 ho2 hg2 hl2 hn2))
        all_goals go_wp2_with fail
        all_goals go_meet
        all_goals first
          | exact ⟨_, _, rfl, lay_a hg1 hl1 ho2 hg2 hl2 hn2⟩
          | exact ⟨_, _, rfl, lay_b hg1 hl1 ho2 hg2 hl2 hn2⟩
      case rest =>
        obtain ⟨bo2, d2, rfl, HM2⟩ := hcut
        obtain ⟨WT, hq⟩ : ∃ z : World, z = wc := ⟨_, rfl⟩
        subst hq
        obtain ⟨g2, rfl⟩ := own_at HM2.out.own HM2.out.ne
        have hs1 := HM.out.loc g1 rfl
        have hs2 := HM2.out.loc g2 rfl
        have hWS := HM.out.out.size
        have hWR := HO.out.size
        have hW2 := HWs.out
        have hg1 : w0.heap.size ≤ g1 ∧ g1 < WS.heap.size := own_block HM.out.own rfl
        obtain ⟨qa, qb, X0, qc, qd⟩ := own_full HM.out.own
        obtain ⟨qe, qf, Y0, qg, qh⟩ := own_full HM2.out.own
        unfold maxLen at qb qf
        have hne : g1 ≠ g2 := by
          intro e
          rcases hs2 with h2 | h2
          · rcases hs1 with h1 | h1
            · exact HNB.out g2 h2 (by rw [← e]; exact h1)
            · have := own_block (own_shut HN.out.ats) h2; omega
          · omega
        have HL0 : Hid (LayS (Hd.foot ⟨hb, none, 0, none, 0, S, R⟩) W WT w0.heap.size hb g1 d1 g2 d2 (.slice none 0 0) (.slice none 0 0) (fl mkS tn tn (rowV t X0)) (rowV b Y0)) := by
          rw [fl_start]
          refine ⟨HM2.out.out.own qd (fun g hg e => ?_), qh, HOWS.out.trans HM2.out.out (fun i hi e => HNF.out _ (Or.inr (Or.inr e))), ?_, ?_, hne, ?_, ?_, HM2.out.out.boxA HXWS.out HEWS.out⟩
          · simp [Value.ownBlock] at hg
            rcases hs1 with h1 | h1
            · exact HNB.out g e (by rw [← hg]; exact h1)
            · have := own_block (own_shut HN.out.ats) e; omega
          · rcases hs1 with h1 | h1
            · exact .inl (HNF.out _ (Or.inr (Or.inl h1)))
            · exact .inr (by omega)
          · rcases hs2 with h2 | h2
            · exact .inl (HNF.out _ (Or.inr (Or.inr h2)))
            · exact .inr (by omega)
          · intro e
            rcases hs1 with h1 | h1
            · exact HEWR.out (by rw [h1, e])
            · have := HLT.out; omega
          · intro e
            rcases hs2 with h2 | h2
            · exact HEWS.out (by rw [h2, e])
            · have := HLT.out; omega
        have LX : Hid ((rowV t X0).length = d1) := by show _ = _; have := qd.1; rw [Nat.mul_one] at this; exact this
        have LY : Hid ((rowV b Y0).length = d2) := by show _ = _; have := qh.1; rw [Nat.mul_one] at this; exact this
        have LT := Lib.hid HA0.out.shp.len
        have LB := Lib.hid HA0.out.ats.len
        simp only at LT LB
        have HYF : Hid (∀ wr, Out (Hd.foot ⟨hb, none, 0, none, 0, S, R⟩) W wr → BoxA wr w.heap.size (.slice ta tn tc) (.slice ba bn bc) ∧ BoxA wr (w.heap.size + 1) (.slice none 0 0) (.slice none 0 0)) := fun wr ho =>
          ⟨ho.boxA Y1.out (fun hk => by have := (HFT.out _ hk).2; omega), ho.boxA Z1.out (fun hk => by have := (HFT.out _ hk).2; omega)⟩
        obtain ⟨X1, HX1⟩ : ∃ z, Hid (rowV t X0 = z) := ⟨_, rfl⟩
        obtain ⟨Y2, HY2⟩ : ∃ z, Hid (rowV b Y0 = z) := ⟨_, rfl⟩
        rw [HX1.out, HY2.out] at HL0
        rw [HX1.out] at LX
        rw [HY2.out] at LY
        have hd1 : (0 : Int) ≤ d1 := by omega
        have hd2 : (0 : Int) ≤ d2 := by omega
        clear x0 x1 x2 x3 x4 y0 y1 hc0 hbd hbd2 HOA HOB HLA HLB HBA HBB HRW KC qc qd qg qh hs1 hs2 hne hWS hWR hW2 hg1
        obtain ⟨y0, y1, -, -, -⟩ := (HYF.out _ HL0.out.out).1
        go_wp2_with fail
        go_loopw [7] (fun i wr => ∃ k : Nat, tn ≤ k ∧ k ≤ d1 ∧ i = .int .i64 k ∧ Hid (LayS (Hd.foot ⟨hb, none, 0, none, 0, S, R⟩) W wr w0.heap.size hb g1 d1 g2 d2 (.slice none 0 0) (.slice none 0 0) (fl mkS tn k X1) Y2)) (fun i _ => d1 - (RowKit.intOf i).toNat)
        case atStart => exact ⟨tn, Nat.le_refl _, by omega, rfl, HL0⟩
        case round =>
          obtain ⟨k, hk1, hk2, rfl, HL⟩ := hrel
          clear y0 y1
          by_cases hlt : k < d1
          · have hlt' : (k : Int) < d1 := by omega
            have hlen : (fl mkS tn k X1).length = d1 := by rw [fl_len, LX.out]
            have c1 : ∃ v, wr.cell? ⟨g1, k, none⟩ = some v := by
              rw [HL.out.own1.cellAt k (by omega)]
              exact ⟨_, List.getElem?_eq_getElem (by omega)⟩
            obtain ⟨v0, c1⟩ := c1
            have c2 := HL.out.own1.frozenAt k
            have HL2 := Lib.hid (HL.out.put1 k (.int .i64 (mkS k)))
            rw [fl_set mkS hk1 (by rw [LX.out]; exact hlt)] at HL2
            unfold mkS at HL2
            clear hlen
            go_wp2
            go_roundw
            case rel => exact ⟨k + 1, by omega, by omega, by go_num, HL2⟩
            case measure => simp [RowKit.intOf]; omega
          · obtain rfl : k = d1 := by omega
            have hge : (k : Int) ≤ k := Int.le_refl _
            have HLB0 : Hid (LayS (Hd.foot ⟨hb, none, 0, none, 0, S, R⟩) W wr w0.heap.size hb g1 k g2 d2 (.slice none 0 0) (.slice none 0 0) (fl mkS tn k X1) (fl mkA bn bn Y2)) := by rw [fl_start]; exact HL
            obtain ⟨y0, y1, -, -, -⟩ := (HYF.out _ HL.out.out).1
            clear hlt
            go_wp2_with fail
            go_loopw [8] (fun i wr => ∃ q : Nat, bn ≤ q ∧ q ≤ d2 ∧ i = .int .i64 q ∧ Hid (LayS (Hd.foot ⟨hb, none, 0, none, 0, S, R⟩) W wr w0.heap.size hb g1 k g2 d2 (.slice none 0 0) (.slice none 0 0) (fl mkS tn k X1) (fl mkA bn q Y2))) (fun i _ => d2 - (RowKit.intOf i).toNat)
            case atStart => exact ⟨bn, Nat.le_refl _, by omega, rfl, HLB0⟩
            case round =>
              clear HL HLB0 y0 y1
              obtain ⟨q, hq1, hq2, rfl, HL⟩ := hrel
              by_cases hlt : q < d2
              · have hlt' : (q : Int) < d2 := by omega
                have hlen : (fl mkA bn q Y2).length = d2 := by rw [fl_len, LY.out]
                have c1 : ∃ v, wr.cell? ⟨g2, q, none⟩ = some v := by
                  rw [HL.out.own2.cellAt q (by omega)]
                  exact ⟨_, List.getElem?_eq_getElem (by omega)⟩
                obtain ⟨v0, c1⟩ := c1
                have c2 := HL.out.own2.frozenAt q
                have HL2 := Lib.hid (HL.out.put2 q (.int .i64 (mkA q)))
                rw [fl_set mkA hq1 (by rw [LY.out]; exact hlt)] at HL2
                unfold mkA at HL2
                clear hlen
                go_wp2
                go_roundw
                case rel => exact ⟨q + 1, by omega, by omega, by go_num, HL2⟩
                case measure => simp [RowKit.intOf]; omega
              · obtain rfl : q = d2 := by omega
                have hge2 : (q : Int) ≤ q := Int.le_refl _
                have hb0 : w0.heap.size ≤ hb := (HFT.out hb (Or.inl rfl)).1
                have hX : fl mkS tn k X1 = (mkd mkS t k).map (Value.int .i64) := by
                  rw [← HX1.out]; exact rowV_end mkS LT.out (by rw [HX1.out]; exact LX.out)
                have hY : fl mkA bn q Y2 = (mkd mkA b q).map (Value.int .i64) := by
                  rw [← HY2.out]; exact rowV_end mkA LB.out (by rw [HY2.out]; exact LY.out)
                obtain ⟨z5, z6⟩ := HL.out.done (Or.inl rfl) hb0 hX hY
                have HD1 := Lib.hid z5
                have HD2 := Lib.hid z6
                obtain ⟨x0, x1, x2, x3, x4⟩ := HL.out.box
                clear z5 z6 hX hY hlt
                obtain ⟨WF, HWF⟩ : ∃ z, Hid ((wr.setCell ⟨hb, 0, none⟩ (.slice (some ⟨g1, 0, none⟩) k k)).setCell ⟨hb, 1, none⟩ (.slice (some ⟨g2, 0, none⟩) q q) = z) := ⟨_, rfl⟩
                rw [HWF.out] at HD1 HD2
                obtain ⟨⟨y0, y1, -, -, -⟩, ⟨z0, z1, z2, z3, z4⟩⟩ := HYF.out _ HD2.out
                go_wp2_with fail
                rw [HWF.out]
                clear x0 x1 x2 x3 x4
                refine region_tail 11 (by kernel_rfl) (by kernel_rfl) ?_
                simp only [List.take_succ_cons, List.take_zero, List.drop_succ_cons, List.drop_zero]
                iterate 11 still_step
                refine wpStill_nil ?_
                have HE : Hid (LaidP ⟨hb, none, 0, none, 0, S, R⟩ ⟨ta, tn, tc, ba, bn, bc, t, b⟩ w0.heap.size w (.returned (.agg #[.slice (some ⟨g1, 0, none⟩) tn k, .slice (some ⟨g2, 0, none⟩) bn q])) ((WF.setCell ⟨w.heap.size + 1, 0, none⟩ (.slice (some ⟨g1, 0, none⟩) tn k)).setCell ⟨w.heap.size + 1, 1, none⟩ (.slice (some ⟨g2, 0, none⟩) bn q)).drew) := by
                  have ho : Out (fun j => j = w.heap.size + 1) WF ((WF.setCell ⟨w.heap.size + 1, 0, none⟩ (.slice (some ⟨g1, 0, none⟩) tn k)).setCell ⟨w.heap.size + 1, 1, none⟩ (.slice (some ⟨g2, 0, none⟩) bn q)).drew :=
                    ((one_out WF (w.heap.size + 1) 0 _).setCell (p := ⟨w.heap.size + 1, 1, none⟩) (.inl rfl) _).via (adrew1 _)
                  have hW2 := HWs.out
                  have ok1 := HL.out.ok1
                  have ok2 := HL.out.ok2
                  have fl := HFT.out
                  have e1 : g1 ≠ w.heap.size + 1 := fun e => by
                    rcases ok1 with h | h
                    · have := (fl _ h).2; omega
                    · omega
                  have e2 : g2 ≠ w.heap.size + 1 := fun e => by
                    rcases ok2 with h | h
                    · have := (fl _ h).2; omega
                    · omega
                  have hd := HD1.out.out ho (by
                    intro j hj e
                    rcases hj with hj | hj | hj
                    · simp only at hj; omega
                    · simp [Value.ownBlock] at hj; omega
                    · simp [Value.ownBlock] at hj; omega)
                  have hs := hd.shp
                  have ha := hd.ats
                  simp only at hs ha
                  have L1 : Ls _ (some ⟨g1, 0, none⟩) tn k t := ls_of_full hs (by omega) (by rw [← LT.out]; exact mkd_take mkS (by rw [LT.out]; omega)) (by omega) HA0.out.shp.rng
                  have L2 : Ls _ (some ⟨g2, 0, none⟩) bn q b := ls_of_full ha (by omega) (by rw [← LB.out]; exact mkd_take mkA (by rw [LB.out]; omega)) (by omega) HA0.out.ats.rng
                  refine ⟨⟨some ⟨g1, 0, none⟩, tn, k, some ⟨g2, 0, none⟩, bn, q, t, b⟩, rfl, ⟨L1, L2⟩, rfl, rfl, ?_, ⟨hb, some ⟨g1, 0, none⟩, k, some ⟨g2, 0, none⟩, q, mkd mkS t k, mkd mkA b q⟩, rfl, ?_, hd, mkd_good _ _ _, mkd_good _ _ _, ?_⟩
                  · refine ((Out.of HWB.out).trans HD2.out (fun _ _ h => h)).trans ho (fun i hi e => ?_)
                    omega
                  · intro j hj
                    rcases hj with hj | hj | hj
                    · exact .inl (Or.inl hj)
                    · simp [Value.ownBlock] at hj
                      rcases ok1 with h | h
                      · exact .inl (by rw [← hj]; exact h)
                      · exact .inr (by omega)
                    · simp [Value.ownBlock] at hj
                      rcases ok2 with h | h
                      · exact .inl (by rw [← hj]; exact h)
                      · exact .inr (by omega)
                  · intro F w2 ho3 hF _
                    have hd2 := hd.out ho3 hF
                    have hs2 := hd2.shp
                    have ha2 := hd2.ats
                    simp only at hs2 ha2
                    have L3 : Ls w2 (some ⟨g1, 0, none⟩) tn k t := ls_of_full hs2 (by omega) (by rw [← LT.out]; exact mkd_take mkS (by rw [LT.out]; omega)) (by omega) HA0.out.shp.rng
                    have L4 : Ls w2 (some ⟨g2, 0, none⟩) bn q b := ls_of_full ha2 (by omega) (by rw [← LB.out]; exact mkd_take mkA (by rw [LB.out]; omega)) (by omega) HA0.out.ats.rng
                    exact ⟨L3, L4⟩
                go_wp2_with fail
                exact bodyPost_ret (v := .agg #[.slice (some ⟨g1, 0, none⟩) tn k, .slice (some ⟨g2, 0, none⟩) bn q]) (by simp [results, Try.results34, go_sem, *]) rfl HE.out
  · clear e1 e2
    have z1 : decide ((tn : Int) + 70000 < sn) = true := decide_eq_true e3
    go_wp2_with fail
    go_quiet (fail)
    go_upto_region 6 with (fail)
    obtain ⟨WR, HWR⟩ : ∃ z, Hid ((((w1.setCell ⟨hb, 0, none⟩ (.slice none 0 0)).setCell ⟨hb, 1, none⟩ (.slice none 0 0)).drewN nq) = z) := ⟨_, rfl⟩
    rw [HWR.out]
    have HN : Hid (Hd.Is ⟨hb, none, 0, none, 0, [], []⟩ w0.heap.size WR) := by
      show Hd.Is _ _ _
      rw [← HWR.out]
      exact HALL.out.gone.via (adrew _ _)
    have HO : Hid (Out (Hd.foot ⟨hb, sa, sn, aa, an, S, R⟩) W WR) := by
      show Out _ _ _
      rw [← HWR.out]
      exact (((Out.of HV1.out).setCell (p := ⟨hb, 0, none⟩) (.inl (Or.inl rfl)) _).setCell (p := ⟨hb, 1, none⟩) (.inl (Or.inl rfl)) _).via (adrew _ _)
    have HFT : Hid (∀ k, Hd.foot ⟨hb, sa, sn, aa, an, S, R⟩ k → w0.heap.size ≤ k ∧ k < w.heap.size) := fun k hk => HFL.out k hk
    have HNF : Hid (∀ k, Hd.foot ⟨hb, none, 0, none, 0, [], []⟩ k → Hd.foot ⟨hb, sa, sn, aa, an, S, R⟩ k) := by
      intro k hk
      rcases hk with hk | hk | hk
      · exact Or.inl hk
      · simp [Value.ownBlock] at hk
      · simp [Value.ownBlock] at hk
    have HYW : Hid (BoxA WR w.heap.size (.slice ta tn tc) (.slice ba bn bc)) := HO.out.boxA Y1.out (fun hk => by have := (HFT.out _ hk).2; omega)
    have HZW : Hid (BoxA WR (w.heap.size + 1) (.slice none 0 0) (.slice none 0 0)) := HO.out.boxA Z1.out (fun hk => by have := (HFT.out _ hk).2; omega)
    have HIA : Hid (Ar.Is ⟨ta, tn, tc, ba, bn, bc, t, b⟩ WR) := by
      have hz : Below w0.heap.size W WR := HO.out.toBelow (fun k hk => (HFT.out k hk).1) (by have := HWs.out; have := HV.out.size; omega)
      exact HA0.out.below ((HV.out.trans (HWB.out.mono HV.out.size)).trans hz) (Nat.le_refl _)
    clear x0 x1 x2 x3 x4 y0 y1 z0 z1 z2 z3 z4
    obtain ⟨y0, y1, -, -, -⟩ := HYW.out
    have q0 := HN.out.box
    simp only at q0
    obtain ⟨x0, x1, x2, x3, x4⟩ := q0
    have HIWR := HIA
    have HSWR : Hid (w0.heap.size ≤ WR.heap.size) := by show _ ≤ _; have := HWs.out; have := HV.out.size; have := HO.out.size; omega
    have HXWR : Hid (BoxA WR hb (.slice none 0 0) (.slice none 0 0)) := HN.out.box
    have HEWR : Hid ((Value.slice none 0 0).ownBlock ≠ some hb) := HN.out.n1
    have HYWR := HYW
    have HGWR : Hid ((Value.slice none 0 0).ownBlock ≠ some w.heap.size) := fun e => by
      have := (HFT.out _ (HNF.out _ (Or.inr (Or.inl e)))).2; omega
    obtain ⟨iWR, hiWR, hz0WR, hz1WR, hz2WR⟩ := info_parts (P := Try.prog) (e := 3) (z := .int .i64 0) (size := 1) (bytes := 8) (by kernel_rfl)
    have HOA : Hid (WR.drew.ownsRow w0.heap.size 3 1 (.slice none 0 0) 0 []) := (own_shut HN.out.shp).drew
    have HOB : Hid ((WR.alloc (.cells #[.int .i64 0, .int .i64 0] 3)).drew.ownsRow w0.heap.size 3 1 (.slice none 0 0) 0 []) := ((own_shut HN.out.shp).alloc _).drew
    have HLA : Hid (Ls WR.drew ta tn tc t) := (HIWR.out.shp.drew 1)
    have HLB : Hid (Ls (WR.alloc (.cells #[.int .i64 0, .int .i64 0] 3)).drew ta tn tc t) := (HIWR.out.shp.via (abal _ _)).drew 1
    have HBA : Hid (w0.heap.size ≤ WR.drew.heap.size) := HSWR
    have HBB : Hid (w0.heap.size ≤ (WR.alloc (.cells #[.int .i64 0, .int .i64 0] 3)).drew.heap.size) := by show _ ≤ _; have := HSWR.out; simp at this ⊢; omega
    have HRW : Hid (∀ k, (Value.slice none 0 0).ownBlock = some k → k < WR.heap.size) := fun k hk => (own_block (own_shut HN.out.shp) hk).2
    have KC : Hid (∀ wx, Out (fun k => (Value.slice none 0 0).ownBlock = some k) WR wx → wx.cell? ⟨hb, 0, none⟩ = some (.slice none 0 0) ∧ wx.cell? ⟨w.heap.size, 0, none⟩ = some (.slice ta tn tc)) := by
      intro wx ho
      exact ⟨(ho.boxA HXWR.out (fun e => HEWR.out e)).c0, (ho.boxA HYWR.out (fun e => HGWR.out e)).c0⟩
    have hbd : tn * 8 ≤ 140737488355328 := by omega
    have hbd2 : (tn + 2) * 8 ≤ 140737488355328 := by omega
    have hc0 : (0 : Int) ≤ 0 := by omega
    go_cut [5] from 47 to 56 (fun v5 wx => ∃ bo d, v5 = .slice bo (tn + 2) d ∧ Hid (LayM w0.heap.size 3 WR wx (.slice none 0 0) bo (tn + 2) d (t ++ [0, 0])))
    case first =>
      go_region_held3 (fun w' => w'.cell? ⟨hb, 0, none⟩ = some (.slice none 0 0) ∧ w'.cell? ⟨w.heap.size, 0, none⟩ = some (.slice ta tn tc)) (first | go_keep | exact KC.out _ (lo_a1 hg1) | exact KC.out _ ((lo_a1 hg1).alloc _) | exact KC.out _ (lo_b1 hg1) | exact KC.out _ (lo_a2 hg1 hl1 hg2) | exact KC.out _ (lo_b2 hg1 hl1 hg2))
        (first
        | ((refine step_append_loc0 _ (by rfl) _ _ 25 (by rfl) w0.heap.size 3 iWR Try.underlying25 hiWR hz0WR hz1WR hz2WR _ (by rfl) HOA.out (by rfl) HLA.out hbd HBA.out ?_); intro b1 d1 w3 ho1 hg1 hl1 hn1)
        | ((refine step_append_loc0 _ (by rfl) _ _ 25 (by rfl) w0.heap.size 3 iWR Try.underlying25 hiWR hz0WR hz1WR hz2WR _ (by rfl) HOB.out (by rfl) HLB.out hbd HBB.out ?_); intro b1 d1 w3 ho1 hg1 hl1 hn1)
        | ((refine step_append_loc _ (by rfl) _ _ 25 (by rfl) w0.heap.size 3 iWR Try.underlying25 hiWR hz0WR hz1WR hz2WR _ tn t (by rfl) (ho1.alloc _) (by rfl) (lit00 _ _) hbd2 (Nat.le_trans HBA.out (Nat.le_trans hg1.size (by simp))) ?_); intro b2 d2 w4 ho2 hg2 hl2 hn2)
        | ((refine step_append_loc _ (by rfl) _ _ 25 (by rfl) w0.heap.size 3 iWR Try.underlying25 hiWR hz0WR hz1WR hz2WR _ tn t (by rfl) ho1 (by rfl) (lit00b hg1 HRW.out) hbd2 (Nat.le_trans HBB.out hg1.size) ?_); intro b2 d2 w4 ho2 hg2 hl2 hn2))
      all_goals go_wp2_with fail
      all_goals go_meet
      all_goals first
        | exact ⟨_, _, rfl, lay_a hg1 hl1 ho2 hg2 hl2 hn2⟩
        | exact ⟨_, _, rfl, lay_b hg1 hl1 ho2 hg2 hl2 hn2⟩
    case rest =>
      obtain ⟨bo, d1, rfl, HM⟩ := hcut
      obtain ⟨WS, hq⟩ : ∃ z : World, z = wc := ⟨_, rfl⟩
      subst hq
      obtain ⟨g1, rfl⟩ := own_at HM.out.own HM.out.ne
      have HNB : Hid (∀ g, (Value.slice none 0 0).ownBlock = some g → ¬ (Value.slice none 0 0).ownBlock = some g) := fun g hg e => HN.out.ne g e hg
      have HOW2 : Hid (WS.ownsRow w0.heap.size 2 1 (.slice none 0 0) 0 ([].map (Value.int .i64))) := HM.out.out.own HN.out.ats (fun g hg => HNB.out g hg)
      have HXWS : Hid (BoxA WS hb (.slice none 0 0) (.slice none 0 0)) := HM.out.out.boxA HXWR.out HEWR.out
      have HYWS : Hid (BoxA WS w.heap.size (.slice ta tn tc) (.slice ba bn bc)) := HM.out.out.boxA HYWR.out HGWR.out
      have HZWS : Hid (BoxA WS (w.heap.size + 1) (.slice none 0 0) (.slice none 0 0)) := HM.out.out.boxA HZW.out (fun e => by
        have := (HFT.out _ (HNF.out _ (Or.inr (Or.inl e)))).2; omega)
      have HEWS : Hid ((Value.slice none 0 0).ownBlock ≠ some hb) := HN.out.n2
      have HGWS : Hid ((Value.slice none 0 0).ownBlock ≠ some w.heap.size) := fun e => by
        have := (HFT.out _ (HNF.out _ (Or.inr (Or.inr e)))).2; omega
      have HOWS : Hid (Out (Hd.foot ⟨hb, sa, sn, aa, an, S, R⟩) W WS) := HO.out.trans HM.out.out (fun i hi e => HNF.out _ (Or.inr (Or.inl e)))
      have HSWS : Hid (w0.heap.size ≤ WS.heap.size) := Nat.le_trans HSWR.out HM.out.out.size
      have HIWS : Hid (Ar.Is ⟨ta, tn, tc, ba, bn, bc, t, b⟩ WS) := by
        have hz : Below w0.heap.size W WS := HOWS.out.toBelow (fun k hk => (HFT.out k hk).1) (by have := HWs.out; have := HV.out.size; omega)
        exact HA0.out.below ((HV.out.trans (HWB.out.mono HV.out.size)).trans hz) (Nat.le_refl _)
      clear x0 x1 x2 x3 x4 y0 y1 hc0 hbd hbd2 HOA HOB HLA HLB HBA HBB HRW KC
      obtain ⟨y0, y1, -, -, -⟩ := HYWS.out
      obtain ⟨x0, x1, x2, x3, x4⟩ := HXWS.out
      obtain ⟨iWS, hiWS, hz0WS, hz1WS, hz2WS⟩ := info_parts (P := Try.prog) (e := 2) (z := .int .i64 0) (size := 1) (bytes := 8) (by kernel_rfl)
      have HOA : Hid (WS.drew.ownsRow w0.heap.size 2 1 (.slice none 0 0) 0 []) := (own_shut HOW2.out).drew
      have HOB : Hid ((WS.alloc (.cells #[.int .i64 0, .int .i64 0] 2)).drew.ownsRow w0.heap.size 2 1 (.slice none 0 0) 0 []) := ((own_shut HOW2.out).alloc _).drew
      have HLA : Hid (Ls WS.drew ba bn bc b) := (HIWS.out.ats.drew 1)
      have HLB : Hid (Ls (WS.alloc (.cells #[.int .i64 0, .int .i64 0] 2)).drew ba bn bc b) := (HIWS.out.ats.via (abal _ _)).drew 1
      have HBA : Hid (w0.heap.size ≤ WS.drew.heap.size) := HSWS
      have HBB : Hid (w0.heap.size ≤ (WS.alloc (.cells #[.int .i64 0, .int .i64 0] 2)).drew.heap.size) := by show _ ≤ _; have := HSWS.out; simp at this ⊢; omega
      have HRW : Hid (∀ k, (Value.slice none 0 0).ownBlock = some k → k < WS.heap.size) := fun k hk => (own_block (own_shut HOW2.out) hk).2
      have KC : Hid (∀ wx, Out (fun k => (Value.slice none 0 0).ownBlock = some k) WS wx → wx.cell? ⟨hb, 1, none⟩ = some (.slice none 0 0) ∧ wx.cell? ⟨w.heap.size, 1, none⟩ = some (.slice ba bn bc)) := by
        intro wx ho
        exact ⟨(ho.boxA HXWS.out (fun e => HEWS.out e)).c1, (ho.boxA HYWS.out (fun e => HGWS.out e)).c1⟩
      have hbd : bn * 8 ≤ 140737488355328 := by omega
      have hbd2 : (bn + 2) * 8 ≤ 140737488355328 := by omega
      have hc0 : (0 : Int) ≤ 0 := by omega
      go_upto_region 7 with (fail)
      go_cut [6] from 57 to 66 (fun v5 wx => ∃ bo d, v5 = .slice bo (bn + 2) d ∧ Hid (LayM w0.heap.size 2 WS wx (.slice none 0 0) bo (bn + 2) d (b ++ [0, 0])))
      case first =>
        go_region_held3 (fun w' => w'.cell? ⟨hb, 1, none⟩ = some (.slice none 0 0) ∧ w'.cell? ⟨w.heap.size, 1, none⟩ = some (.slice ba bn bc)) (first | go_keep | exact KC.out _ (lo_a1 hg1) | exact KC.out _ ((lo_a1 hg1).alloc _) | exact KC.out _ (lo_b1 hg1) | exact KC.out _ (lo_a2 hg1 hl1 hg2) | exact KC.out _ (lo_b2 hg1 hl1 hg2))
          (first
          | ((refine step_append_loc0 _ (by rfl) _ _ 50 (by rfl) w0.heap.size 2 iWS Try.underlying50 hiWS hz0WS hz1WS hz2WS _ (by rfl) HOA.out (by rfl) HLA.out hbd HBA.out ?_); intro b1 d1 w3 ho1 hg1 hl1 hn1)
          | ((refine step_append_loc0 _ (by rfl) _ _ 50 (by rfl) w0.heap.size 2 iWS Try.underlying50 hiWS hz0WS hz1WS hz2WS _ (by rfl) HOB.out (by rfl) HLB.out hbd HBB.out ?_); intro b1 d1 w3 ho1 hg1 hl1 hn1)
          | ((refine step_append_loc _ (by rfl) _ _ 50 (by rfl) w0.heap.size 2 iWS Try.underlying50 hiWS hz0WS hz1WS hz2WS _ bn b (by rfl) (ho1.alloc _) (by rfl) (lit00 _ _) hbd2 (Nat.le_trans HBA.out (Nat.le_trans hg1.size (by simp))) ?_); intro b2 d2 w4 ho2 hg2 hl2 hn2)
          | ((refine step_append_loc _ (by rfl) _ _ 50 (by rfl) w0.heap.size 2 iWS Try.underlying50 hiWS hz0WS hz1WS hz2WS _ bn b (by rfl) ho1 (by rfl) (lit00b hg1 HRW.out) hbd2 (Nat.le_trans HBB.out hg1.size) ?_); intro b2 d2 w4 ho2 hg2 hl2 hn2))
        all_goals go_wp2_with fail
        all_goals go_meet
        all_goals first
          | exact ⟨_, _, rfl, lay_a hg1 hl1 ho2 hg2 hl2 hn2⟩
          | exact ⟨_, _, rfl, lay_b hg1 hl1 ho2 hg2 hl2 hn2⟩
      case rest =>
        obtain ⟨bo2, d2, rfl, HM2⟩ := hcut
        obtain ⟨WT, hq⟩ : ∃ z : World, z = wc := ⟨_, rfl⟩
        subst hq
        obtain ⟨g2, rfl⟩ := own_at HM2.out.own HM2.out.ne
        have hs1 := HM.out.loc g1 rfl
        have hs2 := HM2.out.loc g2 rfl
        have hWS := HM.out.out.size
        have hWR := HO.out.size
        have hW2 := HWs.out
        have hg1 : w0.heap.size ≤ g1 ∧ g1 < WS.heap.size := own_block HM.out.own rfl
        obtain ⟨qa, qb, X0, qc, qd⟩ := own_full HM.out.own
        obtain ⟨qe, qf, Y0, qg, qh⟩ := own_full HM2.out.own
        unfold maxLen at qb qf
        have hne : g1 ≠ g2 := by
          intro e
          rcases hs2 with h2 | h2
          · rcases hs1 with h1 | h1
            · exact HNB.out g2 h2 (by rw [← e]; exact h1)
            · have := own_block (own_shut HN.out.ats) h2; omega
          · omega
        have HL0 : Hid (LayS (Hd.foot ⟨hb, sa, sn, aa, an, S, R⟩) W WT w0.heap.size hb g1 d1 g2 d2 (.slice none 0 0) (.slice none 0 0) (fl mkS tn tn (rowV t X0)) (rowV b Y0)) := by
          rw [fl_start]
          refine ⟨HM2.out.out.own qd (fun g hg e => ?_), qh, HOWS.out.trans HM2.out.out (fun i hi e => HNF.out _ (Or.inr (Or.inr e))), ?_, ?_, hne, ?_, ?_, HM2.out.out.boxA HXWS.out HEWS.out⟩
          · simp [Value.ownBlock] at hg
            rcases hs1 with h1 | h1
            · exact HNB.out g e (by rw [← hg]; exact h1)
            · have := own_block (own_shut HN.out.ats) e; omega
          · rcases hs1 with h1 | h1
            · exact .inl (HNF.out _ (Or.inr (Or.inl h1)))
            · exact .inr (by omega)
          · rcases hs2 with h2 | h2
            · exact .inl (HNF.out _ (Or.inr (Or.inr h2)))
            · exact .inr (by omega)
          · intro e
            rcases hs1 with h1 | h1
            · exact HEWR.out (by rw [h1, e])
            · have := HLT.out; omega
          · intro e
            rcases hs2 with h2 | h2
            · exact HEWS.out (by rw [h2, e])
            · have := HLT.out; omega
        have LX : Hid ((rowV t X0).length = d1) := by show _ = _; have := qd.1; rw [Nat.mul_one] at this; exact this
        have LY : Hid ((rowV b Y0).length = d2) := by show _ = _; have := qh.1; rw [Nat.mul_one] at this; exact this
        have LT := Lib.hid HA0.out.shp.len
        have LB := Lib.hid HA0.out.ats.len
        simp only at LT LB
        have HYF : Hid (∀ wr, Out (Hd.foot ⟨hb, sa, sn, aa, an, S, R⟩) W wr → BoxA wr w.heap.size (.slice ta tn tc) (.slice ba bn bc) ∧ BoxA wr (w.heap.size + 1) (.slice none 0 0) (.slice none 0 0)) := fun wr ho =>
          ⟨ho.boxA Y1.out (fun hk => by have := (HFT.out _ hk).2; omega), ho.boxA Z1.out (fun hk => by have := (HFT.out _ hk).2; omega)⟩
        obtain ⟨X1, HX1⟩ : ∃ z, Hid (rowV t X0 = z) := ⟨_, rfl⟩
        obtain ⟨Y2, HY2⟩ : ∃ z, Hid (rowV b Y0 = z) := ⟨_, rfl⟩
        rw [HX1.out, HY2.out] at HL0
        rw [HX1.out] at LX
        rw [HY2.out] at LY
        have hd1 : (0 : Int) ≤ d1 := by omega
        have hd2 : (0 : Int) ≤ d2 := by omega
        clear x0 x1 x2 x3 x4 y0 y1 hc0 hbd hbd2 HOA HOB HLA HLB HBA HBB HRW KC qc qd qg qh hs1 hs2 hne hWS hWR hW2 hg1
        obtain ⟨y0, y1, -, -, -⟩ := (HYF.out _ HL0.out.out).1
        go_wp2_with fail
        go_loopw [7] (fun i wr => ∃ k : Nat, tn ≤ k ∧ k ≤ d1 ∧ i = .int .i64 k ∧ Hid (LayS (Hd.foot ⟨hb, sa, sn, aa, an, S, R⟩) W wr w0.heap.size hb g1 d1 g2 d2 (.slice none 0 0) (.slice none 0 0) (fl mkS tn k X1) Y2)) (fun i _ => d1 - (RowKit.intOf i).toNat)
        case atStart => exact ⟨tn, Nat.le_refl _, by omega, rfl, HL0⟩
        case round =>
          obtain ⟨k, hk1, hk2, rfl, HL⟩ := hrel
          clear y0 y1
          by_cases hlt : k < d1
          · have hlt' : (k : Int) < d1 := by omega
            have hlen : (fl mkS tn k X1).length = d1 := by rw [fl_len, LX.out]
            have c1 : ∃ v, wr.cell? ⟨g1, k, none⟩ = some v := by
              rw [HL.out.own1.cellAt k (by omega)]
              exact ⟨_, List.getElem?_eq_getElem (by omega)⟩
            obtain ⟨v0, c1⟩ := c1
            have c2 := HL.out.own1.frozenAt k
            have HL2 := Lib.hid (HL.out.put1 k (.int .i64 (mkS k)))
            rw [fl_set mkS hk1 (by rw [LX.out]; exact hlt)] at HL2
            unfold mkS at HL2
            clear hlen
            go_wp2
            go_roundw
            case rel => exact ⟨k + 1, by omega, by omega, by go_num, HL2⟩
            case measure => simp [RowKit.intOf]; omega
          · obtain rfl : k = d1 := by omega
            have hge : (k : Int) ≤ k := Int.le_refl _
            have HLB0 : Hid (LayS (Hd.foot ⟨hb, sa, sn, aa, an, S, R⟩) W wr w0.heap.size hb g1 k g2 d2 (.slice none 0 0) (.slice none 0 0) (fl mkS tn k X1) (fl mkA bn bn Y2)) := by rw [fl_start]; exact HL
            obtain ⟨y0, y1, -, -, -⟩ := (HYF.out _ HL.out.out).1
            clear hlt
            go_wp2_with fail
            go_loopw [8] (fun i wr => ∃ q : Nat, bn ≤ q ∧ q ≤ d2 ∧ i = .int .i64 q ∧ Hid (LayS (Hd.foot ⟨hb, sa, sn, aa, an, S, R⟩) W wr w0.heap.size hb g1 k g2 d2 (.slice none 0 0) (.slice none 0 0) (fl mkS tn k X1) (fl mkA bn q Y2))) (fun i _ => d2 - (RowKit.intOf i).toNat)
            case atStart => exact ⟨bn, Nat.le_refl _, by omega, rfl, HLB0⟩
            case round =>
              clear HL HLB0 y0 y1
              obtain ⟨q, hq1, hq2, rfl, HL⟩ := hrel
              by_cases hlt : q < d2
              · have hlt' : (q : Int) < d2 := by omega
                have hlen : (fl mkA bn q Y2).length = d2 := by rw [fl_len, LY.out]
                have c1 : ∃ v, wr.cell? ⟨g2, q, none⟩ = some v := by
                  rw [HL.out.own2.cellAt q (by omega)]
                  exact ⟨_, List.getElem?_eq_getElem (by omega)⟩
                obtain ⟨v0, c1⟩ := c1
                have c2 := HL.out.own2.frozenAt q
                have HL2 := Lib.hid (HL.out.put2 q (.int .i64 (mkA q)))
                rw [fl_set mkA hq1 (by rw [LY.out]; exact hlt)] at HL2
                unfold mkA at HL2
                clear hlen
                go_wp2
                go_roundw
                case rel => exact ⟨q + 1, by omega, by omega, by go_num, HL2⟩
                case measure => simp [RowKit.intOf]; omega
              · obtain rfl : q = d2 := by omega
                have hge2 : (q : Int) ≤ q := Int.le_refl _
                have hb0 : w0.heap.size ≤ hb := (HFT.out hb (Or.inl rfl)).1
                have hX : fl mkS tn k X1 = (mkd mkS t k).map (Value.int .i64) := by
                  rw [← HX1.out]; exact rowV_end mkS LT.out (by rw [HX1.out]; exact LX.out)
                have hY : fl mkA bn q Y2 = (mkd mkA b q).map (Value.int .i64) := by
                  rw [← HY2.out]; exact rowV_end mkA LB.out (by rw [HY2.out]; exact LY.out)
                obtain ⟨z5, z6⟩ := HL.out.done (Or.inl rfl) hb0 hX hY
                have HD1 := Lib.hid z5
                have HD2 := Lib.hid z6
                obtain ⟨x0, x1, x2, x3, x4⟩ := HL.out.box
                clear z5 z6 hX hY hlt
                obtain ⟨WF, HWF⟩ : ∃ z, Hid ((wr.setCell ⟨hb, 0, none⟩ (.slice (some ⟨g1, 0, none⟩) k k)).setCell ⟨hb, 1, none⟩ (.slice (some ⟨g2, 0, none⟩) q q) = z) := ⟨_, rfl⟩
                rw [HWF.out] at HD1 HD2
                obtain ⟨⟨y0, y1, -, -, -⟩, ⟨z0, z1, z2, z3, z4⟩⟩ := HYF.out _ HD2.out
                go_wp2_with fail
                rw [HWF.out]
                clear x0 x1 x2 x3 x4
                refine region_tail 11 (by kernel_rfl) (by kernel_rfl) ?_
                simp only [List.take_succ_cons, List.take_zero, List.drop_succ_cons, List.drop_zero]
                iterate 11 still_step
                refine wpStill_nil ?_
                have HE : Hid (LaidP ⟨hb, sa, sn, aa, an, S, R⟩ ⟨ta, tn, tc, ba, bn, bc, t, b⟩ w0.heap.size w (.returned (.agg #[.slice (some ⟨g1, 0, none⟩) tn k, .slice (some ⟨g2, 0, none⟩) bn q])) ((WF.setCell ⟨w.heap.size + 1, 0, none⟩ (.slice (some ⟨g1, 0, none⟩) tn k)).setCell ⟨w.heap.size + 1, 1, none⟩ (.slice (some ⟨g2, 0, none⟩) bn q)).drew) := by
                  have ho : Out (fun j => j = w.heap.size + 1) WF ((WF.setCell ⟨w.heap.size + 1, 0, none⟩ (.slice (some ⟨g1, 0, none⟩) tn k)).setCell ⟨w.heap.size + 1, 1, none⟩ (.slice (some ⟨g2, 0, none⟩) bn q)).drew :=
                    ((one_out WF (w.heap.size + 1) 0 _).setCell (p := ⟨w.heap.size + 1, 1, none⟩) (.inl rfl) _).via (adrew1 _)
                  have hW2 := HWs.out
                  have ok1 := HL.out.ok1
                  have ok2 := HL.out.ok2
                  have fl := HFT.out
                  have e1 : g1 ≠ w.heap.size + 1 := fun e => by
                    rcases ok1 with h | h
                    · have := (fl _ h).2; omega
                    · omega
                  have e2 : g2 ≠ w.heap.size + 1 := fun e => by
                    rcases ok2 with h | h
                    · have := (fl _ h).2; omega
                    · omega
                  have hd := HD1.out.out ho (by
                    intro j hj e
                    rcases hj with hj | hj | hj
                    · simp only at hj; omega
                    · simp [Value.ownBlock] at hj; omega
                    · simp [Value.ownBlock] at hj; omega)
                  have hs := hd.shp
                  have ha := hd.ats
                  simp only at hs ha
                  have L1 : Ls _ (some ⟨g1, 0, none⟩) tn k t := ls_of_full hs (by omega) (by rw [← LT.out]; exact mkd_take mkS (by rw [LT.out]; omega)) (by omega) HA0.out.shp.rng
                  have L2 : Ls _ (some ⟨g2, 0, none⟩) bn q b := ls_of_full ha (by omega) (by rw [← LB.out]; exact mkd_take mkA (by rw [LB.out]; omega)) (by omega) HA0.out.ats.rng
                  refine ⟨⟨some ⟨g1, 0, none⟩, tn, k, some ⟨g2, 0, none⟩, bn, q, t, b⟩, rfl, ⟨L1, L2⟩, rfl, rfl, ?_, ⟨hb, some ⟨g1, 0, none⟩, k, some ⟨g2, 0, none⟩, q, mkd mkS t k, mkd mkA b q⟩, rfl, ?_, hd, mkd_good _ _ _, mkd_good _ _ _, ?_⟩
                  · refine ((Out.of HWB.out).trans HD2.out (fun _ _ h => h)).trans ho (fun i hi e => ?_)
                    omega
                  · intro j hj
                    rcases hj with hj | hj | hj
                    · exact .inl (Or.inl hj)
                    · simp [Value.ownBlock] at hj
                      rcases ok1 with h | h
                      · exact .inl (by rw [← hj]; exact h)
                      · exact .inr (by omega)
                    · simp [Value.ownBlock] at hj
                      rcases ok2 with h | h
                      · exact .inl (by rw [← hj]; exact h)
                      · exact .inr (by omega)
                  · intro F w2 ho3 hF _
                    have hd2 := hd.out ho3 hF
                    have hs2 := hd2.shp
                    have ha2 := hd2.ats
                    simp only at hs2 ha2
                    have L3 : Ls w2 (some ⟨g1, 0, none⟩) tn k t := ls_of_full hs2 (by omega) (by rw [← LT.out]; exact mkd_take mkS (by rw [LT.out]; omega)) (by omega) HA0.out.shp.rng
                    have L4 : Ls w2 (some ⟨g2, 0, none⟩) bn q b := ls_of_full ha2 (by omega) (by rw [← LB.out]; exact mkd_take mkA (by rw [LB.out]; omega)) (by omega) HA0.out.ats.rng
                    exact ⟨L3, L4⟩
                go_wp2_with fail
                exact bodyPost_ret (v := .agg #[.slice (some ⟨g1, 0, none⟩) tn k, .slice (some ⟨g2, 0, none⟩) bn q]) (by simp [results, Try.results34, go_sem, *]) rfl HE.out
  · clear e1 e2
    have z1 : decide ((tn : Int) + 70000 < sn) = false := decide_eq_false (by omega)
    have z2 : decide ((bn : Int) + 70000 < an) = true := decide_eq_true e4
    go_wp2_with fail
    go_quiet (fail)
    go_upto_region 6 with (fail)
    obtain ⟨WR, HWR⟩ : ∃ z, Hid ((((w1.setCell ⟨hb, 0, none⟩ (.slice none 0 0)).setCell ⟨hb, 1, none⟩ (.slice none 0 0)).drewN nq) = z) := ⟨_, rfl⟩
    rw [HWR.out]
    have HN : Hid (Hd.Is ⟨hb, none, 0, none, 0, [], []⟩ w0.heap.size WR) := by
      show Hd.Is _ _ _
      rw [← HWR.out]
      exact HALL.out.gone.via (adrew _ _)
    have HO : Hid (Out (Hd.foot ⟨hb, sa, sn, aa, an, S, R⟩) W WR) := by
      show Out _ _ _
      rw [← HWR.out]
      exact (((Out.of HV1.out).setCell (p := ⟨hb, 0, none⟩) (.inl (Or.inl rfl)) _).setCell (p := ⟨hb, 1, none⟩) (.inl (Or.inl rfl)) _).via (adrew _ _)
    have HFT : Hid (∀ k, Hd.foot ⟨hb, sa, sn, aa, an, S, R⟩ k → w0.heap.size ≤ k ∧ k < w.heap.size) := fun k hk => HFL.out k hk
    have HNF : Hid (∀ k, Hd.foot ⟨hb, none, 0, none, 0, [], []⟩ k → Hd.foot ⟨hb, sa, sn, aa, an, S, R⟩ k) := by
      intro k hk
      rcases hk with hk | hk | hk
      · exact Or.inl hk
      · simp [Value.ownBlock] at hk
      · simp [Value.ownBlock] at hk
    have HYW : Hid (BoxA WR w.heap.size (.slice ta tn tc) (.slice ba bn bc)) := HO.out.boxA Y1.out (fun hk => by have := (HFT.out _ hk).2; omega)
    have HZW : Hid (BoxA WR (w.heap.size + 1) (.slice none 0 0) (.slice none 0 0)) := HO.out.boxA Z1.out (fun hk => by have := (HFT.out _ hk).2; omega)
    have HIA : Hid (Ar.Is ⟨ta, tn, tc, ba, bn, bc, t, b⟩ WR) := by
      have hz : Below w0.heap.size W WR := HO.out.toBelow (fun k hk => (HFT.out k hk).1) (by have := HWs.out; have := HV.out.size; omega)
      exact HA0.out.below ((HV.out.trans (HWB.out.mono HV.out.size)).trans hz) (Nat.le_refl _)
    clear x0 x1 x2 x3 x4 y0 y1 z0 z1 z2 z3 z4
    obtain ⟨y0, y1, -, -, -⟩ := HYW.out
    have q0 := HN.out.box
    simp only at q0
    obtain ⟨x0, x1, x2, x3, x4⟩ := q0
    have HIWR := HIA
    have HSWR : Hid (w0.heap.size ≤ WR.heap.size) := by show _ ≤ _; have := HWs.out; have := HV.out.size; have := HO.out.size; omega
    have HXWR : Hid (BoxA WR hb (.slice none 0 0) (.slice none 0 0)) := HN.out.box
    have HEWR : Hid ((Value.slice none 0 0).ownBlock ≠ some hb) := HN.out.n1
    have HYWR := HYW
    have HGWR : Hid ((Value.slice none 0 0).ownBlock ≠ some w.heap.size) := fun e => by
      have := (HFT.out _ (HNF.out _ (Or.inr (Or.inl e)))).2; omega
    obtain ⟨iWR, hiWR, hz0WR, hz1WR, hz2WR⟩ := info_parts (P := Try.prog) (e := 3) (z := .int .i64 0) (size := 1) (bytes := 8) (by kernel_rfl)
    have HOA : Hid (WR.drew.ownsRow w0.heap.size 3 1 (.slice none 0 0) 0 []) := (own_shut HN.out.shp).drew
    have HOB : Hid ((WR.alloc (.cells #[.int .i64 0, .int .i64 0] 3)).drew.ownsRow w0.heap.size 3 1 (.slice none 0 0) 0 []) := ((own_shut HN.out.shp).alloc _).drew
    have HLA : Hid (Ls WR.drew ta tn tc t) := (HIWR.out.shp.drew 1)
    have HLB : Hid (Ls (WR.alloc (.cells #[.int .i64 0, .int .i64 0] 3)).drew ta tn tc t) := (HIWR.out.shp.via (abal _ _)).drew 1
    have HBA : Hid (w0.heap.size ≤ WR.drew.heap.size) := HSWR
    have HBB : Hid (w0.heap.size ≤ (WR.alloc (.cells #[.int .i64 0, .int .i64 0] 3)).drew.heap.size) := by show _ ≤ _; have := HSWR.out; simp at this ⊢; omega
    have HRW : Hid (∀ k, (Value.slice none 0 0).ownBlock = some k → k < WR.heap.size) := fun k hk => (own_block (own_shut HN.out.shp) hk).2
    have KC : Hid (∀ wx, Out (fun k => (Value.slice none 0 0).ownBlock = some k) WR wx → wx.cell? ⟨hb, 0, none⟩ = some (.slice none 0 0) ∧ wx.cell? ⟨w.heap.size, 0, none⟩ = some (.slice ta tn tc)) := by
      intro wx ho
      exact ⟨(ho.boxA HXWR.out (fun e => HEWR.out e)).c0, (ho.boxA HYWR.out (fun e => HGWR.out e)).c0⟩
    have hbd : tn * 8 ≤ 140737488355328 := by omega
    have hbd2 : (tn + 2) * 8 ≤ 140737488355328 := by omega
    have hc0 : (0 : Int) ≤ 0 := by omega
    go_cut [5] from 47 to 56 (fun v5 wx => ∃ bo d, v5 = .slice bo (tn + 2) d ∧ Hid (LayM w0.heap.size 3 WR wx (.slice none 0 0) bo (tn + 2) d (t ++ [0, 0])))
    case first =>
      go_region_held3 (fun w' => w'.cell? ⟨hb, 0, none⟩ = some (.slice none 0 0) ∧ w'.cell? ⟨w.heap.size, 0, none⟩ = some (.slice ta tn tc)) (first | go_keep | exact KC.out _ (lo_a1 hg1) | exact KC.out _ ((lo_a1 hg1).alloc _) | exact KC.out _ (lo_b1 hg1) | exact KC.out _ (lo_a2 hg1 hl1 hg2) | exact KC.out _ (lo_b2 hg1 hl1 hg2))
        (first
        | ((refine step_append_loc0 _ (by rfl) _ _ 25 (by rfl) w0.heap.size 3 iWR Try.underlying25 hiWR hz0WR hz1WR hz2WR _ (by rfl) HOA.out (by rfl) HLA.out hbd HBA.out ?_); intro b1 d1 w3 ho1 hg1 hl1 hn1)
        | ((refine step_append_loc0 _ (by rfl) _ _ 25 (by rfl) w0.heap.size 3 iWR Try.underlying25 hiWR hz0WR hz1WR hz2WR _ (by rfl) HOB.out (by rfl) HLB.out hbd HBB.out ?_); intro b1 d1 w3 ho1 hg1 hl1 hn1)
        | ((refine step_append_loc _ (by rfl) _ _ 25 (by rfl) w0.heap.size 3 iWR Try.underlying25 hiWR hz0WR hz1WR hz2WR _ tn t (by rfl) (ho1.alloc _) (by rfl) (lit00 _ _) hbd2 (Nat.le_trans HBA.out (Nat.le_trans hg1.size (by simp))) ?_); intro b2 d2 w4 ho2 hg2 hl2 hn2)
        | ((refine step_append_loc _ (by rfl) _ _ 25 (by rfl) w0.heap.size 3 iWR Try.underlying25 hiWR hz0WR hz1WR hz2WR _ tn t (by rfl) ho1 (by rfl) (lit00b hg1 HRW.out) hbd2 (Nat.le_trans HBB.out hg1.size) ?_); intro b2 d2 w4 ho2 hg2 hl2 hn2))
      all_goals go_wp2_with fail
      all_goals go_meet
      all_goals first
        | exact ⟨_, _, rfl, lay_a hg1 hl1 ho2 hg2 hl2 hn2⟩
        | exact ⟨_, _, rfl, lay_b hg1 hl1 ho2 hg2 hl2 hn2⟩
    case rest =>
      obtain ⟨bo, d1, rfl, HM⟩ := hcut
      obtain ⟨WS, hq⟩ : ∃ z : World, z = wc := ⟨_, rfl⟩
      subst hq
      obtain ⟨g1, rfl⟩ := own_at HM.out.own HM.out.ne
      have HNB : Hid (∀ g, (Value.slice none 0 0).ownBlock = some g → ¬ (Value.slice none 0 0).ownBlock = some g) := fun g hg e => HN.out.ne g e hg
      have HOW2 : Hid (WS.ownsRow w0.heap.size 2 1 (.slice none 0 0) 0 ([].map (Value.int .i64))) := HM.out.out.own HN.out.ats (fun g hg => HNB.out g hg)
      have HXWS : Hid (BoxA WS hb (.slice none 0 0) (.slice none 0 0)) := HM.out.out.boxA HXWR.out HEWR.out
      have HYWS : Hid (BoxA WS w.heap.size (.slice ta tn tc) (.slice ba bn bc)) := HM.out.out.boxA HYWR.out HGWR.out
      have HZWS : Hid (BoxA WS (w.heap.size + 1) (.slice none 0 0) (.slice none 0 0)) := HM.out.out.boxA HZW.out (fun e => by
        have := (HFT.out _ (HNF.out _ (Or.inr (Or.inl e)))).2; omega)
      have HEWS : Hid ((Value.slice none 0 0).ownBlock ≠ some hb) := HN.out.n2
      have HGWS : Hid ((Value.slice none 0 0).ownBlock ≠ some w.heap.size) := fun e => by
        have := (HFT.out _ (HNF.out _ (Or.inr (Or.inr e)))).2; omega
      have HOWS : Hid (Out (Hd.foot ⟨hb, sa, sn, aa, an, S, R⟩) W WS) := HO.out.trans HM.out.out (fun i hi e => HNF.out _ (Or.inr (Or.inl e)))
      have HSWS : Hid (w0.heap.size ≤ WS.heap.size) := Nat.le_trans HSWR.out HM.out.out.size
      have HIWS : Hid (Ar.Is ⟨ta, tn, tc, ba, bn, bc, t, b⟩ WS) := by
        have hz : Below w0.heap.size W WS := HOWS.out.toBelow (fun k hk => (HFT.out k hk).1) (by have := HWs.out; have := HV.out.size; omega)
        exact HA0.out.below ((HV.out.trans (HWB.out.mono HV.out.size)).trans hz) (Nat.le_refl _)
      clear x0 x1 x2 x3 x4 y0 y1 hc0 hbd hbd2 HOA HOB HLA HLB HBA HBB HRW KC
      obtain ⟨y0, y1, -, -, -⟩ := HYWS.out
      obtain ⟨x0, x1, x2, x3, x4⟩ := HXWS.out
      obtain ⟨iWS, hiWS, hz0WS, hz1WS, hz2WS⟩ := info_parts (P := Try.prog) (e := 2) (z := .int .i64 0) (size := 1) (bytes := 8) (by kernel_rfl)
      have HOA : Hid (WS.drew.ownsRow w0.heap.size 2 1 (.slice none 0 0) 0 []) := (own_shut HOW2.out).drew
      have HOB : Hid ((WS.alloc (.cells #[.int .i64 0, .int .i64 0] 2)).drew.ownsRow w0.heap.size 2 1 (.slice none 0 0) 0 []) := ((own_shut HOW2.out).alloc _).drew
      have HLA : Hid (Ls WS.drew ba bn bc b) := (HIWS.out.ats.drew 1)
      have HLB : Hid (Ls (WS.alloc (.cells #[.int .i64 0, .int .i64 0] 2)).drew ba bn bc b) := (HIWS.out.ats.via (abal _ _)).drew 1
      have HBA : Hid (w0.heap.size ≤ WS.drew.heap.size) := HSWS
      have HBB : Hid (w0.heap.size ≤ (WS.alloc (.cells #[.int .i64 0, .int .i64 0] 2)).drew.heap.size) := by show _ ≤ _; have := HSWS.out; simp at this ⊢; omega
      have HRW : Hid (∀ k, (Value.slice none 0 0).ownBlock = some k → k < WS.heap.size) := fun k hk => (own_block (own_shut HOW2.out) hk).2
      have KC : Hid (∀ wx, Out (fun k => (Value.slice none 0 0).ownBlock = some k) WS wx → wx.cell? ⟨hb, 1, none⟩ = some (.slice none 0 0) ∧ wx.cell? ⟨w.heap.size, 1, none⟩ = some (.slice ba bn bc)) := by
        intro wx ho
        exact ⟨(ho.boxA HXWS.out (fun e => HEWS.out e)).c1, (ho.boxA HYWS.out (fun e => HGWS.out e)).c1⟩
      have hbd : bn * 8 ≤ 140737488355328 := by omega
      have hbd2 : (bn + 2) * 8 ≤ 140737488355328 := by omega
      have hc0 : (0 : Int) ≤ 0 := by omega
      go_upto_region 7 with (fail)
      go_cut [6] from 57 to 66 (fun v5 wx => ∃ bo d, v5 = .slice bo (bn + 2) d ∧ Hid (LayM w0.heap.size 2 WS wx (.slice none 0 0) bo (bn + 2) d (b ++ [0, 0])))
      case first =>
        go_region_held3 (fun w' => w'.cell? ⟨hb, 1, none⟩ = some (.slice none 0 0) ∧ w'.cell? ⟨w.heap.size, 1, none⟩ = some (.slice ba bn bc)) (first | go_keep | exact KC.out _ (lo_a1 hg1) | exact KC.out _ ((lo_a1 hg1).alloc _) | exact KC.out _ (lo_b1 hg1) | exact KC.out _ (lo_a2 hg1 hl1 hg2) | exact KC.out _ (lo_b2 hg1 hl1 hg2))
          (first
          | ((refine step_append_loc0 _ (by rfl) _ _ 50 (by rfl) w0.heap.size 2 iWS Try.underlying50 hiWS hz0WS hz1WS hz2WS _ (by rfl) HOA.out (by rfl) HLA.out hbd HBA.out ?_); intro b1 d1 w3 ho1 hg1 hl1 hn1)
          | ((refine step_append_loc0 _ (by rfl) _ _ 50 (by rfl) w0.heap.size 2 iWS Try.underlying50 hiWS hz0WS hz1WS hz2WS _ (by rfl) HOB.out (by rfl) HLB.out hbd HBB.out ?_); intro b1 d1 w3 ho1 hg1 hl1 hn1)
          | ((refine step_append_loc _ (by rfl) _ _ 50 (by rfl) w0.heap.size 2 iWS Try.underlying50 hiWS hz0WS hz1WS hz2WS _ bn b (by rfl) (ho1.alloc _) (by rfl) (lit00 _ _) hbd2 (Nat.le_trans HBA.out (Nat.le_trans hg1.size (by simp))) ?_); intro b2 d2 w4 ho2 hg2 hl2 hn2)
          | ((refine step_append_loc _ (by rfl) _ _ 50 (by rfl) w0.heap.size 2 iWS Try.underlying50 hiWS hz0WS hz1WS hz2WS _ bn b (by rfl) ho1 (by rfl) (lit00b hg1 HRW.out) hbd2 (Nat.le_trans HBB.out hg1.size) ?_); intro b2 d2 w4 ho2 hg2 hl2 hn2))
        all_goals go_wp2_with fail
        all_goals go_meet
        all_goals first
          | exact ⟨_, _, rfl, lay_a hg1 hl1 ho2 hg2 hl2 hn2⟩
          | exact ⟨_, _, rfl, lay_b hg1 hl1 ho2 hg2 hl2 hn2⟩
      case rest =>
        obtain ⟨bo2, d2, rfl, HM2⟩ := hcut
        obtain ⟨WT, hq⟩ : ∃ z : World, z = wc := ⟨_, rfl⟩
        subst hq
        obtain ⟨g2, rfl⟩ := own_at HM2.out.own HM2.out.ne
        have hs1 := HM.out.loc g1 rfl
        have hs2 := HM2.out.loc g2 rfl
        have hWS := HM.out.out.size
        have hWR := HO.out.size
        have hW2 := HWs.out
        have hg1 : w0.heap.size ≤ g1 ∧ g1 < WS.heap.size := own_block HM.out.own rfl
        obtain ⟨qa, qb, X0, qc, qd⟩ := own_full HM.out.own
        obtain ⟨qe, qf, Y0, qg, qh⟩ := own_full HM2.out.own
        unfold maxLen at qb qf
        have hne : g1 ≠ g2 := by
          intro e
          rcases hs2 with h2 | h2
          · rcases hs1 with h1 | h1
            · exact HNB.out g2 h2 (by rw [← e]; exact h1)
            · have := own_block (own_shut HN.out.ats) h2; omega
          · omega
        have HL0 : Hid (LayS (Hd.foot ⟨hb, sa, sn, aa, an, S, R⟩) W WT w0.heap.size hb g1 d1 g2 d2 (.slice none 0 0) (.slice none 0 0) (fl mkS tn tn (rowV t X0)) (rowV b Y0)) := by
          rw [fl_start]
          refine ⟨HM2.out.out.own qd (fun g hg e => ?_), qh, HOWS.out.trans HM2.out.out (fun i hi e => HNF.out _ (Or.inr (Or.inr e))), ?_, ?_, hne, ?_, ?_, HM2.out.out.boxA HXWS.out HEWS.out⟩
          · simp [Value.ownBlock] at hg
            rcases hs1 with h1 | h1
            · exact HNB.out g e (by rw [← hg]; exact h1)
            · have := own_block (own_shut HN.out.ats) e; omega
          · rcases hs1 with h1 | h1
            · exact .inl (HNF.out _ (Or.inr (Or.inl h1)))
            · exact .inr (by omega)
          · rcases hs2 with h2 | h2
            · exact .inl (HNF.out _ (Or.inr (Or.inr h2)))
            · exact .inr (by omega)
          · intro e
            rcases hs1 with h1 | h1
            · exact HEWR.out (by rw [h1, e])
            · have := HLT.out; omega
          · intro e
            rcases hs2 with h2 | h2
            · exact HEWS.out (by rw [h2, e])
            · have := HLT.out; omega
        have LX : Hid ((rowV t X0).length = d1) := by show _ = _; have := qd.1; rw [Nat.mul_one] at this; exact this
        have LY : Hid ((rowV b Y0).length = d2) := by show _ = _; have := qh.1; rw [Nat.mul_one] at this; exact this
        have LT := Lib.hid HA0.out.shp.len
        have LB := Lib.hid HA0.out.ats.len
        simp only at LT LB
        have HYF : Hid (∀ wr, Out (Hd.foot ⟨hb, sa, sn, aa, an, S, R⟩) W wr → BoxA wr w.heap.size (.slice ta tn tc) (.slice ba bn bc) ∧ BoxA wr (w.heap.size + 1) (.slice none 0 0) (.slice none 0 0)) := fun wr ho =>
          ⟨ho.boxA Y1.out (fun hk => by have := (HFT.out _ hk).2; omega), ho.boxA Z1.out (fun hk => by have := (HFT.out _ hk).2; omega)⟩
        obtain ⟨X1, HX1⟩ : ∃ z, Hid (rowV t X0 = z) := ⟨_, rfl⟩
        obtain ⟨Y2, HY2⟩ : ∃ z, Hid (rowV b Y0 = z) := ⟨_, rfl⟩
        rw [HX1.out, HY2.out] at HL0
        rw [HX1.out] at LX
        rw [HY2.out] at LY
        have hd1 : (0 : Int) ≤ d1 := by omega
        have hd2 : (0 : Int) ≤ d2 := by omega
        clear x0 x1 x2 x3 x4 y0 y1 hc0 hbd hbd2 HOA HOB HLA HLB HBA HBB HRW KC qc qd qg qh hs1 hs2 hne hWS hWR hW2 hg1
        obtain ⟨y0, y1, -, -, -⟩ := (HYF.out _ HL0.out.out).1
        go_wp2_with fail
        go_loopw [7] (fun i wr => ∃ k : Nat, tn ≤ k ∧ k ≤ d1 ∧ i = .int .i64 k ∧ Hid (LayS (Hd.foot ⟨hb, sa, sn, aa, an, S, R⟩) W wr w0.heap.size hb g1 d1 g2 d2 (.slice none 0 0) (.slice none 0 0) (fl mkS tn k X1) Y2)) (fun i _ => d1 - (RowKit.intOf i).toNat)
        case atStart => exact ⟨tn, Nat.le_refl _, by omega, rfl, HL0⟩
        case round =>
          obtain ⟨k, hk1, hk2, rfl, HL⟩ := hrel
          clear y0 y1
          by_cases hlt : k < d1
          · have hlt' : (k : Int) < d1 := by omega
            have hlen : (fl mkS tn k X1).length = d1 := by rw [fl_len, LX.out]
            have c1 : ∃ v, wr.cell? ⟨g1, k, none⟩ = some v := by
              rw [HL.out.own1.cellAt k (by omega)]
              exact ⟨_, List.getElem?_eq_getElem (by omega)⟩
            obtain ⟨v0, c1⟩ := c1
            have c2 := HL.out.own1.frozenAt k
            have HL2 := Lib.hid (HL.out.put1 k (.int .i64 (mkS k)))
            rw [fl_set mkS hk1 (by rw [LX.out]; exact hlt)] at HL2
            unfold mkS at HL2
            clear hlen
            go_wp2
            go_roundw
            case rel => exact ⟨k + 1, by omega, by omega, by go_num, HL2⟩
            case measure => simp [RowKit.intOf]; omega
          · obtain rfl : k = d1 := by omega
            have hge : (k : Int) ≤ k := Int.le_refl _
            have HLB0 : Hid (LayS (Hd.foot ⟨hb, sa, sn, aa, an, S, R⟩) W wr w0.heap.size hb g1 k g2 d2 (.slice none 0 0) (.slice none 0 0) (fl mkS tn k X1) (fl mkA bn bn Y2)) := by rw [fl_start]; exact HL
            obtain ⟨y0, y1, -, -, -⟩ := (HYF.out _ HL.out.out).1
            clear hlt
            go_wp2_with fail
            go_loopw [8] (fun i wr => ∃ q : Nat, bn ≤ q ∧ q ≤ d2 ∧ i = .int .i64 q ∧ Hid (LayS (Hd.foot ⟨hb, sa, sn, aa, an, S, R⟩) W wr w0.heap.size hb g1 k g2 d2 (.slice none 0 0) (.slice none 0 0) (fl mkS tn k X1) (fl mkA bn q Y2))) (fun i _ => d2 - (RowKit.intOf i).toNat)
            case atStart => exact ⟨bn, Nat.le_refl _, by omega, rfl, HLB0⟩
            case round =>
              clear HL HLB0 y0 y1
              obtain ⟨q, hq1, hq2, rfl, HL⟩ := hrel
              by_cases hlt : q < d2
              · have hlt' : (q : Int) < d2 := by omega
                have hlen : (fl mkA bn q Y2).length = d2 := by rw [fl_len, LY.out]
                have c1 : ∃ v, wr.cell? ⟨g2, q, none⟩ = some v := by
                  rw [HL.out.own2.cellAt q (by omega)]
                  exact ⟨_, List.getElem?_eq_getElem (by omega)⟩
                obtain ⟨v0, c1⟩ := c1
                have c2 := HL.out.own2.frozenAt q
                have HL2 := Lib.hid (HL.out.put2 q (.int .i64 (mkA q)))
                rw [fl_set mkA hq1 (by rw [LY.out]; exact hlt)] at HL2
                unfold mkA at HL2
                clear hlen
                go_wp2
                go_roundw
                case rel => exact ⟨q + 1, by omega, by omega, by go_num, HL2⟩
                case measure => simp [RowKit.intOf]; omega
              · obtain rfl : q = d2 := by omega
                have hge2 : (q : Int) ≤ q := Int.le_refl _
                have hb0 : w0.heap.size ≤ hb := (HFT.out hb (Or.inl rfl)).1
                have hX : fl mkS tn k X1 = (mkd mkS t k).map (Value.int .i64) := by
                  rw [← HX1.out]; exact rowV_end mkS LT.out (by rw [HX1.out]; exact LX.out)
                have hY : fl mkA bn q Y2 = (mkd mkA b q).map (Value.int .i64) := by
                  rw [← HY2.out]; exact rowV_end mkA LB.out (by rw [HY2.out]; exact LY.out)
                obtain ⟨z5, z6⟩ := HL.out.done (Or.inl rfl) hb0 hX hY
                have HD1 := Lib.hid z5
                have HD2 := Lib.hid z6
                obtain ⟨x0, x1, x2, x3, x4⟩ := HL.out.box
                clear z5 z6 hX hY hlt
                obtain ⟨WF, HWF⟩ : ∃ z, Hid ((wr.setCell ⟨hb, 0, none⟩ (.slice (some ⟨g1, 0, none⟩) k k)).setCell ⟨hb, 1, none⟩ (.slice (some ⟨g2, 0, none⟩) q q) = z) := ⟨_, rfl⟩
                rw [HWF.out] at HD1 HD2
                obtain ⟨⟨y0, y1, -, -, -⟩, ⟨z0, z1, z2, z3, z4⟩⟩ := HYF.out _ HD2.out
                go_wp2_with fail
                rw [HWF.out]
                clear x0 x1 x2 x3 x4
                refine region_tail 11 (by kernel_rfl) (by kernel_rfl) ?_
                simp only [List.take_succ_cons, List.take_zero, List.drop_succ_cons, List.drop_zero]
                iterate 11 still_step
                refine wpStill_nil ?_
                have HE : Hid (LaidP ⟨hb, sa, sn, aa, an, S, R⟩ ⟨ta, tn, tc, ba, bn, bc, t, b⟩ w0.heap.size w (.returned (.agg #[.slice (some ⟨g1, 0, none⟩) tn k, .slice (some ⟨g2, 0, none⟩) bn q])) ((WF.setCell ⟨w.heap.size + 1, 0, none⟩ (.slice (some ⟨g1, 0, none⟩) tn k)).setCell ⟨w.heap.size + 1, 1, none⟩ (.slice (some ⟨g2, 0, none⟩) bn q)).drew) := by
                  have ho : Out (fun j => j = w.heap.size + 1) WF ((WF.setCell ⟨w.heap.size + 1, 0, none⟩ (.slice (some ⟨g1, 0, none⟩) tn k)).setCell ⟨w.heap.size + 1, 1, none⟩ (.slice (some ⟨g2, 0, none⟩) bn q)).drew :=
                    ((one_out WF (w.heap.size + 1) 0 _).setCell (p := ⟨w.heap.size + 1, 1, none⟩) (.inl rfl) _).via (adrew1 _)
                  have hW2 := HWs.out
                  have ok1 := HL.out.ok1
                  have ok2 := HL.out.ok2
                  have fl := HFT.out
                  have e1 : g1 ≠ w.heap.size + 1 := fun e => by
                    rcases ok1 with h | h
                    · have := (fl _ h).2; omega
                    · omega
                  have e2 : g2 ≠ w.heap.size + 1 := fun e => by
                    rcases ok2 with h | h
                    · have := (fl _ h).2; omega
                    · omega
                  have hd := HD1.out.out ho (by
                    intro j hj e
                    rcases hj with hj | hj | hj
                    · simp only at hj; omega
                    · simp [Value.ownBlock] at hj; omega
                    · simp [Value.ownBlock] at hj; omega)
                  have hs := hd.shp
                  have ha := hd.ats
                  simp only at hs ha
                  have L1 : Ls _ (some ⟨g1, 0, none⟩) tn k t := ls_of_full hs (by omega) (by rw [← LT.out]; exact mkd_take mkS (by rw [LT.out]; omega)) (by omega) HA0.out.shp.rng
                  have L2 : Ls _ (some ⟨g2, 0, none⟩) bn q b := ls_of_full ha (by omega) (by rw [← LB.out]; exact mkd_take mkA (by rw [LB.out]; omega)) (by omega) HA0.out.ats.rng
                  refine ⟨⟨some ⟨g1, 0, none⟩, tn, k, some ⟨g2, 0, none⟩, bn, q, t, b⟩, rfl, ⟨L1, L2⟩, rfl, rfl, ?_, ⟨hb, some ⟨g1, 0, none⟩, k, some ⟨g2, 0, none⟩, q, mkd mkS t k, mkd mkA b q⟩, rfl, ?_, hd, mkd_good _ _ _, mkd_good _ _ _, ?_⟩
                  · refine ((Out.of HWB.out).trans HD2.out (fun _ _ h => h)).trans ho (fun i hi e => ?_)
                    omega
                  · intro j hj
                    rcases hj with hj | hj | hj
                    · exact .inl (Or.inl hj)
                    · simp [Value.ownBlock] at hj
                      rcases ok1 with h | h
                      · exact .inl (by rw [← hj]; exact h)
                      · exact .inr (by omega)
                    · simp [Value.ownBlock] at hj
                      rcases ok2 with h | h
                      · exact .inl (by rw [← hj]; exact h)
                      · exact .inr (by omega)
                  · intro F w2 ho3 hF _
                    have hd2 := hd.out ho3 hF
                    have hs2 := hd2.shp
                    have ha2 := hd2.ats
                    simp only at hs2 ha2
                    have L3 : Ls w2 (some ⟨g1, 0, none⟩) tn k t := ls_of_full hs2 (by omega) (by rw [← LT.out]; exact mkd_take mkS (by rw [LT.out]; omega)) (by omega) HA0.out.shp.rng
                    have L4 : Ls w2 (some ⟨g2, 0, none⟩) bn q b := ls_of_full ha2 (by omega) (by rw [← LB.out]; exact mkd_take mkA (by rw [LB.out]; omega)) (by omega) HA0.out.ats.rng
                    exact ⟨L3, L4⟩
                go_wp2_with fail
                exact bodyPost_ret (v := .agg #[.slice (some ⟨g1, 0, none⟩) tn k, .slice (some ⟨g2, 0, none⟩) bn q]) (by simp [results, Try.results34, go_sem, *]) rfl HE.out
  · obtain ⟨p1, rfl⟩ := own_at H1.out.shp e1
    obtain ⟨p2, rfl⟩ := own_at H1.out.ats e2
    clear e1 e2
    have z1 : decide ((tn : Int) + 70000 < sn) = false := decide_eq_false (by omega)
    have z2 : decide ((bn : Int) + 70000 < an) = false := decide_eq_false (by omega)
    go_wp2_with fail
    go_quiet (fail)
    go_upto_region 6 with (fail)
    obtain ⟨WR, HWR⟩ : ∃ z, Hid ((w1.drewN nq) = z) := ⟨_, rfl⟩
    rw [HWR.out]
    have HN : Hid (Hd.Is ⟨hb, (some ⟨p1, 0, none⟩), sn, (some ⟨p2, 0, none⟩), an, S, R⟩ w0.heap.size WR) := by
      show Hd.Is _ _ _
      rw [← HWR.out]
      exact HALL.out.via (adrew _ _)
    have HO : Hid (Out (Hd.foot ⟨hb, some ⟨p1, 0, none⟩, sn, some ⟨p2, 0, none⟩, an, S, R⟩) W WR) := by
      show Out _ _ _
      rw [← HWR.out]
      exact (Out.of HV1.out).via (adrew _ _)
    have HFT : Hid (∀ k, Hd.foot ⟨hb, some ⟨p1, 0, none⟩, sn, some ⟨p2, 0, none⟩, an, S, R⟩ k → w0.heap.size ≤ k ∧ k < w.heap.size) := fun k hk => HFL.out k hk
    have HNF : Hid (∀ k, Hd.foot ⟨hb, (some ⟨p1, 0, none⟩), sn, (some ⟨p2, 0, none⟩), an, S, R⟩ k → Hd.foot ⟨hb, some ⟨p1, 0, none⟩, sn, some ⟨p2, 0, none⟩, an, S, R⟩ k) := by
      intro k hk
      exact hk
    have HYW : Hid (BoxA WR w.heap.size (.slice ta tn tc) (.slice ba bn bc)) := HO.out.boxA Y1.out (fun hk => by have := (HFT.out _ hk).2; omega)
    have HZW : Hid (BoxA WR (w.heap.size + 1) (.slice none 0 0) (.slice none 0 0)) := HO.out.boxA Z1.out (fun hk => by have := (HFT.out _ hk).2; omega)
    have HIA : Hid (Ar.Is ⟨ta, tn, tc, ba, bn, bc, t, b⟩ WR) := by
      have hz : Below w0.heap.size W WR := HO.out.toBelow (fun k hk => (HFT.out k hk).1) (by have := HWs.out; have := HV.out.size; omega)
      exact HA0.out.below ((HV.out.trans (HWB.out.mono HV.out.size)).trans hz) (Nat.le_refl _)
    clear x0 x1 x2 x3 x4 y0 y1 z0 z1 z2 z3 z4
    obtain ⟨y0, y1, -, -, -⟩ := HYW.out
    have q0 := HN.out.box
    simp only at q0
    obtain ⟨x0, x1, x2, x3, x4⟩ := q0
    have HIWR := HIA
    have HSWR : Hid (w0.heap.size ≤ WR.heap.size) := by show _ ≤ _; have := HWs.out; have := HV.out.size; have := HO.out.size; omega
    have HXWR : Hid (BoxA WR hb (.slice (some ⟨p1, 0, none⟩) sn sn) (.slice (some ⟨p2, 0, none⟩) an an)) := HN.out.box
    have HEWR : Hid ((Value.slice (some ⟨p1, 0, none⟩) 0 sn).ownBlock ≠ some hb) := HN.out.n1
    have HYWR := HYW
    have HGWR : Hid ((Value.slice (some ⟨p1, 0, none⟩) 0 sn).ownBlock ≠ some w.heap.size) := fun e => by
      have := (HFT.out _ (HNF.out _ (Or.inr (Or.inl e)))).2; omega
    obtain ⟨iWR, hiWR, hz0WR, hz1WR, hz2WR⟩ := info_parts (P := Try.prog) (e := 3) (z := .int .i64 0) (size := 1) (bytes := 8) (by kernel_rfl)
    have HOA : Hid (WR.drew.ownsRow w0.heap.size 3 1 (.slice (some ⟨p1, 0, none⟩) 0 sn) 0 []) := (own_shut HN.out.shp).drew
    have HOB : Hid ((WR.alloc (.cells #[.int .i64 0, .int .i64 0] 3)).drew.ownsRow w0.heap.size 3 1 (.slice (some ⟨p1, 0, none⟩) 0 sn) 0 []) := ((own_shut HN.out.shp).alloc _).drew
    have HLA : Hid (Ls WR.drew ta tn tc t) := (HIWR.out.shp.drew 1)
    have HLB : Hid (Ls (WR.alloc (.cells #[.int .i64 0, .int .i64 0] 3)).drew ta tn tc t) := (HIWR.out.shp.via (abal _ _)).drew 1
    have HBA : Hid (w0.heap.size ≤ WR.drew.heap.size) := HSWR
    have HBB : Hid (w0.heap.size ≤ (WR.alloc (.cells #[.int .i64 0, .int .i64 0] 3)).drew.heap.size) := by show _ ≤ _; have := HSWR.out; simp at this ⊢; omega
    have HRW : Hid (∀ k, (Value.slice (some ⟨p1, 0, none⟩) 0 sn).ownBlock = some k → k < WR.heap.size) := fun k hk => (own_block (own_shut HN.out.shp) hk).2
    have KC : Hid (∀ wx, Out (fun k => (Value.slice (some ⟨p1, 0, none⟩) 0 sn).ownBlock = some k) WR wx → wx.cell? ⟨hb, 0, none⟩ = some (.slice (some ⟨p1, 0, none⟩) sn sn) ∧ wx.cell? ⟨w.heap.size, 0, none⟩ = some (.slice ta tn tc)) := by
      intro wx ho
      exact ⟨(ho.boxA HXWR.out (fun e => HEWR.out e)).c0, (ho.boxA HYWR.out (fun e => HGWR.out e)).c0⟩
    have hbd : tn * 8 ≤ 140737488355328 := by omega
    have hbd2 : (tn + 2) * 8 ≤ 140737488355328 := by omega
    have hc0 : (0 : Int) ≤ sn := by omega
    go_cut [5] from 47 to 56 (fun v5 wx => ∃ bo d, v5 = .slice bo (tn + 2) d ∧ Hid (LayM w0.heap.size 3 WR wx (.slice (some ⟨p1, 0, none⟩) 0 sn) bo (tn + 2) d (t ++ [0, 0])))
    case first =>
      go_region_held3 (fun w' => w'.cell? ⟨hb, 0, none⟩ = some (.slice (some ⟨p1, 0, none⟩) sn sn) ∧ w'.cell? ⟨w.heap.size, 0, none⟩ = some (.slice ta tn tc)) (first | go_keep | exact KC.out _ (lo_a1 hg1) | exact KC.out _ ((lo_a1 hg1).alloc _) | exact KC.out _ (lo_b1 hg1) | exact KC.out _ (lo_a2 hg1 hl1 hg2) | exact KC.out _ (lo_b2 hg1 hl1 hg2))
        (first
        | ((refine step_append_loc0 _ (by rfl) _ _ 25 (by rfl) w0.heap.size 3 iWR Try.underlying25 hiWR hz0WR hz1WR hz2WR _ (by rfl) HOA.out (by rfl) HLA.out hbd HBA.out ?_); intro b1 d1 w3 ho1 hg1 hl1 hn1)
        | ((refine step_append_loc0 _ (by rfl) _ _ 25 (by rfl) w0.heap.size 3 iWR Try.underlying25 hiWR hz0WR hz1WR hz2WR _ (by rfl) HOB.out (by rfl) HLB.out hbd HBB.out ?_); intro b1 d1 w3 ho1 hg1 hl1 hn1)
        | ((refine step_append_loc _ (by rfl) _ _ 25 (by rfl) w0.heap.size 3 iWR Try.underlying25 hiWR hz0WR hz1WR hz2WR _ tn t (by rfl) (ho1.alloc _) (by rfl) (lit00 _ _) hbd2 (Nat.le_trans HBA.out (Nat.le_trans hg1.size (by simp))) ?_); intro b2 d2 w4 ho2 hg2 hl2 hn2)
        | ((refine step_append_loc _ (by rfl) _ _ 25 (by rfl) w0.heap.size 3 iWR Try.underlying25 hiWR hz0WR hz1WR hz2WR _ tn t (by rfl) ho1 (by rfl) (lit00b hg1 HRW.out) hbd2 (Nat.le_trans HBB.out hg1.size) ?_); intro b2 d2 w4 ho2 hg2 hl2 hn2))
      all_goals go_wp2_with fail
      all_goals go_meet
      all_goals first
        | exact ⟨_, _, rfl, lay_a hg1 hl1 ho2 hg2 hl2 hn2⟩
        | exact ⟨_, _, rfl, lay_b hg1 hl1 ho2 hg2 hl2 hn2⟩
    case rest =>
      obtain ⟨bo, d1, rfl, HM⟩ := hcut
      obtain ⟨WS, hq⟩ : ∃ z : World, z = wc := ⟨_, rfl⟩
      subst hq
      obtain ⟨g1, rfl⟩ := own_at HM.out.own HM.out.ne
      have HNB : Hid (∀ g, (Value.slice (some ⟨p2, 0, none⟩) 0 an).ownBlock = some g → ¬ (Value.slice (some ⟨p1, 0, none⟩) 0 sn).ownBlock = some g) := fun g hg e => HN.out.ne g e hg
      have HOW2 : Hid (WS.ownsRow w0.heap.size 2 1 (.slice (some ⟨p2, 0, none⟩) an an) an (R.map (Value.int .i64))) := HM.out.out.own HN.out.ats (fun g hg => HNB.out g hg)
      have HXWS : Hid (BoxA WS hb (.slice (some ⟨p1, 0, none⟩) sn sn) (.slice (some ⟨p2, 0, none⟩) an an)) := HM.out.out.boxA HXWR.out HEWR.out
      have HYWS : Hid (BoxA WS w.heap.size (.slice ta tn tc) (.slice ba bn bc)) := HM.out.out.boxA HYWR.out HGWR.out
      have HZWS : Hid (BoxA WS (w.heap.size + 1) (.slice none 0 0) (.slice none 0 0)) := HM.out.out.boxA HZW.out (fun e => by
        have := (HFT.out _ (HNF.out _ (Or.inr (Or.inl e)))).2; omega)
      have HEWS : Hid ((Value.slice (some ⟨p2, 0, none⟩) 0 an).ownBlock ≠ some hb) := HN.out.n2
      have HGWS : Hid ((Value.slice (some ⟨p2, 0, none⟩) 0 an).ownBlock ≠ some w.heap.size) := fun e => by
        have := (HFT.out _ (HNF.out _ (Or.inr (Or.inr e)))).2; omega
      have HOWS : Hid (Out (Hd.foot ⟨hb, some ⟨p1, 0, none⟩, sn, some ⟨p2, 0, none⟩, an, S, R⟩) W WS) := HO.out.trans HM.out.out (fun i hi e => HNF.out _ (Or.inr (Or.inl e)))
      have HSWS : Hid (w0.heap.size ≤ WS.heap.size) := Nat.le_trans HSWR.out HM.out.out.size
      have HIWS : Hid (Ar.Is ⟨ta, tn, tc, ba, bn, bc, t, b⟩ WS) := by
        have hz : Below w0.heap.size W WS := HOWS.out.toBelow (fun k hk => (HFT.out k hk).1) (by have := HWs.out; have := HV.out.size; omega)
        exact HA0.out.below ((HV.out.trans (HWB.out.mono HV.out.size)).trans hz) (Nat.le_refl _)
      clear x0 x1 x2 x3 x4 y0 y1 hc0 hbd hbd2 HOA HOB HLA HLB HBA HBB HRW KC
      obtain ⟨y0, y1, -, -, -⟩ := HYWS.out
      obtain ⟨x0, x1, x2, x3, x4⟩ := HXWS.out
      obtain ⟨iWS, hiWS, hz0WS, hz1WS, hz2WS⟩ := info_parts (P := Try.prog) (e := 2) (z := .int .i64 0) (size := 1) (bytes := 8) (by kernel_rfl)
      have HOA : Hid (WS.drew.ownsRow w0.heap.size 2 1 (.slice (some ⟨p2, 0, none⟩) 0 an) 0 []) := (own_shut HOW2.out).drew
      have HOB : Hid ((WS.alloc (.cells #[.int .i64 0, .int .i64 0] 2)).drew.ownsRow w0.heap.size 2 1 (.slice (some ⟨p2, 0, none⟩) 0 an) 0 []) := ((own_shut HOW2.out).alloc _).drew
      have HLA : Hid (Ls WS.drew ba bn bc b) := (HIWS.out.ats.drew 1)
      have HLB : Hid (Ls (WS.alloc (.cells #[.int .i64 0, .int .i64 0] 2)).drew ba bn bc b) := (HIWS.out.ats.via (abal _ _)).drew 1
      have HBA : Hid (w0.heap.size ≤ WS.drew.heap.size) := HSWS
      have HBB : Hid (w0.heap.size ≤ (WS.alloc (.cells #[.int .i64 0, .int .i64 0] 2)).drew.heap.size) := by show _ ≤ _; have := HSWS.out; simp at this ⊢; omega
      have HRW : Hid (∀ k, (Value.slice (some ⟨p2, 0, none⟩) 0 an).ownBlock = some k → k < WS.heap.size) := fun k hk => (own_block (own_shut HOW2.out) hk).2
      have KC : Hid (∀ wx, Out (fun k => (Value.slice (some ⟨p2, 0, none⟩) 0 an).ownBlock = some k) WS wx → wx.cell? ⟨hb, 1, none⟩ = some (.slice (some ⟨p2, 0, none⟩) an an) ∧ wx.cell? ⟨w.heap.size, 1, none⟩ = some (.slice ba bn bc)) := by
        intro wx ho
        exact ⟨(ho.boxA HXWS.out (fun e => HEWS.out e)).c1, (ho.boxA HYWS.out (fun e => HGWS.out e)).c1⟩
      have hbd : bn * 8 ≤ 140737488355328 := by omega
      have hbd2 : (bn + 2) * 8 ≤ 140737488355328 := by omega
      have hc0 : (0 : Int) ≤ an := by omega
      go_upto_region 7 with (fail)
      go_cut [6] from 57 to 66 (fun v5 wx => ∃ bo d, v5 = .slice bo (bn + 2) d ∧ Hid (LayM w0.heap.size 2 WS wx (.slice (some ⟨p2, 0, none⟩) 0 an) bo (bn + 2) d (b ++ [0, 0])))
      case first =>
        go_region_held3 (fun w' => w'.cell? ⟨hb, 1, none⟩ = some (.slice (some ⟨p2, 0, none⟩) an an) ∧ w'.cell? ⟨w.heap.size, 1, none⟩ = some (.slice ba bn bc)) (first | go_keep | exact KC.out _ (lo_a1 hg1) | exact KC.out _ ((lo_a1 hg1).alloc _) | exact KC.out _ (lo_b1 hg1) | exact KC.out _ (lo_a2 hg1 hl1 hg2) | exact KC.out _ (lo_b2 hg1 hl1 hg2))
          (first
          | ((refine step_append_loc0 _ (by rfl) _ _ 50 (by rfl) w0.heap.size 2 iWS Try.underlying50 hiWS hz0WS hz1WS hz2WS _ (by rfl) HOA.out (by rfl) HLA.out hbd HBA.out ?_); intro b1 d1 w3 ho1 hg1 hl1 hn1)
          | ((refine step_append_loc0 _ (by rfl) _ _ 50 (by rfl) w0.heap.size 2 iWS Try.underlying50 hiWS hz0WS hz1WS hz2WS _ (by rfl) HOB.out (by rfl) HLB.out hbd HBB.out ?_); intro b1 d1 w3 ho1 hg1 hl1 hn1)
          | ((refine step_append_loc _ (by rfl) _ _ 50 (by rfl) w0.heap.size 2 iWS Try.underlying50 hiWS hz0WS hz1WS hz2WS _ bn b (by rfl) (ho1.alloc _) (by rfl) (lit00 _ _) hbd2 (Nat.le_trans HBA.out (Nat.le_trans hg1.size (by simp))) ?_); intro b2 d2 w4 ho2 hg2 hl2 hn2)
          | ((refine step_append_loc _ (by rfl) _ _ 50 (by rfl) w0.heap.size 2 iWS Try.underlying50 hiWS hz0WS hz1WS hz2WS _ bn b (by rfl) ho1 (by rfl) (lit00b hg1 HRW.out) hbd2 (Nat.le_trans HBB.out hg1.size) ?_); intro b2 d2 w4 ho2 hg2 hl2 hn2))
        all_goals go_wp2_with fail
        all_goals go_meet
        all_goals first
          | exact ⟨_, _, rfl, lay_a hg1 hl1 ho2 hg2 hl2 hn2⟩
          | exact ⟨_, _, rfl, lay_b hg1 hl1 ho2 hg2 hl2 hn2⟩
      case rest =>
        obtain ⟨bo2, d2, rfl, HM2⟩ := hcut
        obtain ⟨WT, hq⟩ : ∃ z : World, z = wc := ⟨_, rfl⟩
        subst hq
        obtain ⟨g2, rfl⟩ := own_at HM2.out.own HM2.out.ne
        have hs1 := HM.out.loc g1 rfl
        have hs2 := HM2.out.loc g2 rfl
        have hWS := HM.out.out.size
        have hWR := HO.out.size
        have hW2 := HWs.out
        have hg1 : w0.heap.size ≤ g1 ∧ g1 < WS.heap.size := own_block HM.out.own rfl
        obtain ⟨qa, qb, X0, qc, qd⟩ := own_full HM.out.own
        obtain ⟨qe, qf, Y0, qg, qh⟩ := own_full HM2.out.own
        unfold maxLen at qb qf
        have hne : g1 ≠ g2 := by
          intro e
          rcases hs2 with h2 | h2
          · rcases hs1 with h1 | h1
            · exact HNB.out g2 h2 (by rw [← e]; exact h1)
            · have := own_block (own_shut HN.out.ats) h2; omega
          · omega
        have HL0 : Hid (LayS (Hd.foot ⟨hb, some ⟨p1, 0, none⟩, sn, some ⟨p2, 0, none⟩, an, S, R⟩) W WT w0.heap.size hb g1 d1 g2 d2 (.slice (some ⟨p1, 0, none⟩) sn sn) (.slice (some ⟨p2, 0, none⟩) an an) (fl mkS tn tn (rowV t X0)) (rowV b Y0)) := by
          rw [fl_start]
          refine ⟨HM2.out.out.own qd (fun g hg e => ?_), qh, HOWS.out.trans HM2.out.out (fun i hi e => HNF.out _ (Or.inr (Or.inr e))), ?_, ?_, hne, ?_, ?_, HM2.out.out.boxA HXWS.out HEWS.out⟩
          · simp [Value.ownBlock] at hg
            rcases hs1 with h1 | h1
            · exact HNB.out g e (by rw [← hg]; exact h1)
            · have := own_block (own_shut HN.out.ats) e; omega
          · rcases hs1 with h1 | h1
            · exact .inl (HNF.out _ (Or.inr (Or.inl h1)))
            · exact .inr (by omega)
          · rcases hs2 with h2 | h2
            · exact .inl (HNF.out _ (Or.inr (Or.inr h2)))
            · exact .inr (by omega)
          · intro e
            rcases hs1 with h1 | h1
            · exact HEWR.out (by rw [h1, e])
            · have := HLT.out; omega
          · intro e
            rcases hs2 with h2 | h2
            · exact HEWS.out (by rw [h2, e])
            · have := HLT.out; omega
        have LX : Hid ((rowV t X0).length = d1) := by show _ = _; have := qd.1; rw [Nat.mul_one] at this; exact this
        have LY : Hid ((rowV b Y0).length = d2) := by show _ = _; have := qh.1; rw [Nat.mul_one] at this; exact this
        have LT := Lib.hid HA0.out.shp.len
        have LB := Lib.hid HA0.out.ats.len
        simp only at LT LB
        have HYF : Hid (∀ wr, Out (Hd.foot ⟨hb, some ⟨p1, 0, none⟩, sn, some ⟨p2, 0, none⟩, an, S, R⟩) W wr → BoxA wr w.heap.size (.slice ta tn tc) (.slice ba bn bc) ∧ BoxA wr (w.heap.size + 1) (.slice none 0 0) (.slice none 0 0)) := fun wr ho =>
          ⟨ho.boxA Y1.out (fun hk => by have := (HFT.out _ hk).2; omega), ho.boxA Z1.out (fun hk => by have := (HFT.out _ hk).2; omega)⟩
        obtain ⟨X1, HX1⟩ : ∃ z, Hid (rowV t X0 = z) := ⟨_, rfl⟩
        obtain ⟨Y2, HY2⟩ : ∃ z, Hid (rowV b Y0 = z) := ⟨_, rfl⟩
        rw [HX1.out, HY2.out] at HL0
        rw [HX1.out] at LX
        rw [HY2.out] at LY
        have hd1 : (0 : Int) ≤ d1 := by omega
        have hd2 : (0 : Int) ≤ d2 := by omega
        clear x0 x1 x2 x3 x4 y0 y1 hc0 hbd hbd2 HOA HOB HLA HLB HBA HBB HRW KC qc qd qg qh hs1 hs2 hne hWS hWR hW2 hg1
        obtain ⟨y0, y1, -, -, -⟩ := (HYF.out _ HL0.out.out).1
        go_wp2_with fail
        go_loopw [7] (fun i wr => ∃ k : Nat, tn ≤ k ∧ k ≤ d1 ∧ i = .int .i64 k ∧ Hid (LayS (Hd.foot ⟨hb, some ⟨p1, 0, none⟩, sn, some ⟨p2, 0, none⟩, an, S, R⟩) W wr w0.heap.size hb g1 d1 g2 d2 (.slice (some ⟨p1, 0, none⟩) sn sn) (.slice (some ⟨p2, 0, none⟩) an an) (fl mkS tn k X1) Y2)) (fun i _ => d1 - (RowKit.intOf i).toNat)
        case atStart => exact ⟨tn, Nat.le_refl _, by omega, rfl, HL0⟩
        case round =>
          obtain ⟨k, hk1, hk2, rfl, HL⟩ := hrel
          clear y0 y1
          by_cases hlt : k < d1
          · have hlt' : (k : Int) < d1 := by omega
            have hlen : (fl mkS tn k X1).length = d1 := by rw [fl_len, LX.out]
            have c1 : ∃ v, wr.cell? ⟨g1, k, none⟩ = some v := by
              rw [HL.out.own1.cellAt k (by omega)]
              exact ⟨_, List.getElem?_eq_getElem (by omega)⟩
            obtain ⟨v0, c1⟩ := c1
            have c2 := HL.out.own1.frozenAt k
            have HL2 := Lib.hid (HL.out.put1 k (.int .i64 (mkS k)))
            rw [fl_set mkS hk1 (by rw [LX.out]; exact hlt)] at HL2
            unfold mkS at HL2
            clear hlen
            go_wp2
            go_roundw
            case rel => exact ⟨k + 1, by omega, by omega, by go_num, HL2⟩
            case measure => simp [RowKit.intOf]; omega
          · obtain rfl : k = d1 := by omega
            have hge : (k : Int) ≤ k := Int.le_refl _
            have HLB0 : Hid (LayS (Hd.foot ⟨hb, some ⟨p1, 0, none⟩, sn, some ⟨p2, 0, none⟩, an, S, R⟩) W wr w0.heap.size hb g1 k g2 d2 (.slice (some ⟨p1, 0, none⟩) sn sn) (.slice (some ⟨p2, 0, none⟩) an an) (fl mkS tn k X1) (fl mkA bn bn Y2)) := by rw [fl_start]; exact HL
            obtain ⟨y0, y1, -, -, -⟩ := (HYF.out _ HL.out.out).1
            clear hlt
            go_wp2_with fail
            go_loopw [8] (fun i wr => ∃ q : Nat, bn ≤ q ∧ q ≤ d2 ∧ i = .int .i64 q ∧ Hid (LayS (Hd.foot ⟨hb, some ⟨p1, 0, none⟩, sn, some ⟨p2, 0, none⟩, an, S, R⟩) W wr w0.heap.size hb g1 k g2 d2 (.slice (some ⟨p1, 0, none⟩) sn sn) (.slice (some ⟨p2, 0, none⟩) an an) (fl mkS tn k X1) (fl mkA bn q Y2))) (fun i _ => d2 - (RowKit.intOf i).toNat)
            case atStart => exact ⟨bn, Nat.le_refl _, by omega, rfl, HLB0⟩
            case round =>
              clear HL HLB0 y0 y1
              obtain ⟨q, hq1, hq2, rfl, HL⟩ := hrel
              by_cases hlt : q < d2
              · have hlt' : (q : Int) < d2 := by omega
                have hlen : (fl mkA bn q Y2).length = d2 := by rw [fl_len, LY.out]
                have c1 : ∃ v, wr.cell? ⟨g2, q, none⟩ = some v := by
                  rw [HL.out.own2.cellAt q (by omega)]
                  exact ⟨_, List.getElem?_eq_getElem (by omega)⟩
                obtain ⟨v0, c1⟩ := c1
                have c2 := HL.out.own2.frozenAt q
                have HL2 := Lib.hid (HL.out.put2 q (.int .i64 (mkA q)))
                rw [fl_set mkA hq1 (by rw [LY.out]; exact hlt)] at HL2
                unfold mkA at HL2
                clear hlen
                go_wp2
                go_roundw
                case rel => exact ⟨q + 1, by omega, by omega, by go_num, HL2⟩
                case measure => simp [RowKit.intOf]; omega
              · obtain rfl : q = d2 := by omega
                have hge2 : (q : Int) ≤ q := Int.le_refl _
                have hb0 : w0.heap.size ≤ hb := (HFT.out hb (Or.inl rfl)).1
                have hX : fl mkS tn k X1 = (mkd mkS t k).map (Value.int .i64) := by
                  rw [← HX1.out]; exact rowV_end mkS LT.out (by rw [HX1.out]; exact LX.out)
                have hY : fl mkA bn q Y2 = (mkd mkA b q).map (Value.int .i64) := by
                  rw [← HY2.out]; exact rowV_end mkA LB.out (by rw [HY2.out]; exact LY.out)
                obtain ⟨z5, z6⟩ := HL.out.done (Or.inl rfl) hb0 hX hY
                have HD1 := Lib.hid z5
                have HD2 := Lib.hid z6
                obtain ⟨x0, x1, x2, x3, x4⟩ := HL.out.box
                clear z5 z6 hX hY hlt
                obtain ⟨WF, HWF⟩ : ∃ z, Hid ((wr.setCell ⟨hb, 0, none⟩ (.slice (some ⟨g1, 0, none⟩) k k)).setCell ⟨hb, 1, none⟩ (.slice (some ⟨g2, 0, none⟩) q q) = z) := ⟨_, rfl⟩
                rw [HWF.out] at HD1 HD2
                obtain ⟨⟨y0, y1, -, -, -⟩, ⟨z0, z1, z2, z3, z4⟩⟩ := HYF.out _ HD2.out
                go_wp2_with fail
                rw [HWF.out]
                clear x0 x1 x2 x3 x4
                refine region_tail 11 (by kernel_rfl) (by kernel_rfl) ?_
                simp only [List.take_succ_cons, List.take_zero, List.drop_succ_cons, List.drop_zero]
                iterate 11 still_step
                refine wpStill_nil ?_
                have HE : Hid (LaidP ⟨hb, some ⟨p1, 0, none⟩, sn, some ⟨p2, 0, none⟩, an, S, R⟩ ⟨ta, tn, tc, ba, bn, bc, t, b⟩ w0.heap.size w (.returned (.agg #[.slice (some ⟨g1, 0, none⟩) tn k, .slice (some ⟨g2, 0, none⟩) bn q])) ((WF.setCell ⟨w.heap.size + 1, 0, none⟩ (.slice (some ⟨g1, 0, none⟩) tn k)).setCell ⟨w.heap.size + 1, 1, none⟩ (.slice (some ⟨g2, 0, none⟩) bn q)).drew) := by
                  have ho : Out (fun j => j = w.heap.size + 1) WF ((WF.setCell ⟨w.heap.size + 1, 0, none⟩ (.slice (some ⟨g1, 0, none⟩) tn k)).setCell ⟨w.heap.size + 1, 1, none⟩ (.slice (some ⟨g2, 0, none⟩) bn q)).drew :=
                    ((one_out WF (w.heap.size + 1) 0 _).setCell (p := ⟨w.heap.size + 1, 1, none⟩) (.inl rfl) _).via (adrew1 _)
                  have hW2 := HWs.out
                  have ok1 := HL.out.ok1
                  have ok2 := HL.out.ok2
                  have fl := HFT.out
                  have e1 : g1 ≠ w.heap.size + 1 := fun e => by
                    rcases ok1 with h | h
                    · have := (fl _ h).2; omega
                    · omega
                  have e2 : g2 ≠ w.heap.size + 1 := fun e => by
                    rcases ok2 with h | h
                    · have := (fl _ h).2; omega
                    · omega
                  have hd := HD1.out.out ho (by
                    intro j hj e
                    rcases hj with hj | hj | hj
                    · simp only at hj; omega
                    · simp [Value.ownBlock] at hj; omega
                    · simp [Value.ownBlock] at hj; omega)
                  have hs := hd.shp
                  have ha := hd.ats
                  simp only at hs ha
                  have L1 : Ls _ (some ⟨g1, 0, none⟩) tn k t := ls_of_full hs (by omega) (by rw [← LT.out]; exact mkd_take mkS (by rw [LT.out]; omega)) (by omega) HA0.out.shp.rng
                  have L2 : Ls _ (some ⟨g2, 0, none⟩) bn q b := ls_of_full ha (by omega) (by rw [← LB.out]; exact mkd_take mkA (by rw [LB.out]; omega)) (by omega) HA0.out.ats.rng
                  refine ⟨⟨some ⟨g1, 0, none⟩, tn, k, some ⟨g2, 0, none⟩, bn, q, t, b⟩, rfl, ⟨L1, L2⟩, rfl, rfl, ?_, ⟨hb, some ⟨g1, 0, none⟩, k, some ⟨g2, 0, none⟩, q, mkd mkS t k, mkd mkA b q⟩, rfl, ?_, hd, mkd_good _ _ _, mkd_good _ _ _, ?_⟩
                  · refine ((Out.of HWB.out).trans HD2.out (fun _ _ h => h)).trans ho (fun i hi e => ?_)
                    omega
                  · intro j hj
                    rcases hj with hj | hj | hj
                    · exact .inl (Or.inl hj)
                    · simp [Value.ownBlock] at hj
                      rcases ok1 with h | h
                      · exact .inl (by rw [← hj]; exact h)
                      · exact .inr (by omega)
                    · simp [Value.ownBlock] at hj
                      rcases ok2 with h | h
                      · exact .inl (by rw [← hj]; exact h)
                      · exact .inr (by omega)
                  · intro F w2 ho3 hF _
                    have hd2 := hd.out ho3 hF
                    have hs2 := hd2.shp
                    have ha2 := hd2.ats
                    simp only at hs2 ha2
                    have L3 : Ls w2 (some ⟨g1, 0, none⟩) tn k t := ls_of_full hs2 (by omega) (by rw [← LT.out]; exact mkd_take mkS (by rw [LT.out]; omega)) (by omega) HA0.out.shp.rng
                    have L4 : Ls w2 (some ⟨g2, 0, none⟩) bn q b := ls_of_full ha2 (by omega) (by rw [← LB.out]; exact mkd_take mkA (by rw [LB.out]; omega)) (by omega) HA0.out.ats.rng
                    exact ⟨L3, L4⟩
                go_wp2_with fail
                exact bodyPost_ret (v := .agg #[.slice (some ⟨g1, 0, none⟩) tn k, .slice (some ⟨g2, 0, none⟩) bn q]) (by simp [results, Try.results34, go_sem, *]) rfl HE.out
theorem lay_any {w0 w : World} {H : Hd} {A : Ar} (hA : A.Is w0) (hv : Below w0.heap.size w0 w) (hH : H.Is w0.heap.size w) :
    Calls Try.prog 34 #[.pointer (some ⟨H.hb, 0, none⟩), A.v] w (LaidP H A w0.heap.size w) := by
  cases hs : shB A
  · exact lay_long hA hv hH hs
  · exact lay_short hA hv hH hs
end Go.Proofs.Ytdedbfbkakofgaa

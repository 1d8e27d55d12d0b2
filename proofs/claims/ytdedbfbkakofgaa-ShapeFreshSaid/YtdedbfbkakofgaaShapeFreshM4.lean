/- Contract of arr.Item. Contracts of arr.Item (all cases), arr.Scalar, arr.List. -/
import Derived.Test.YtdedbfbkakofgaaShapeFreshM3
import Derived.Deep.RegionHeld3
import Derived.IntWalk
namespace Go.Proofs.Ytdedbfbkakofgaa
open Go.RowKit Go.Lib
set_option linter.unusedVariables false
set_option linter.unusedSimpArgs false
attribute [local go_sem] alloc_drewN setCell_drewN

/-- An array that a call made: both rows are its own, from base on, in blocks of their own. -/
structure Ar.Own (B : Ar) (w : World) (base : Nat) : Prop where
  shp : w.ownsRow base 3 1 (.slice B.sa B.sn B.sc) B.sn (B.s.map (Value.int .i64))
  ats : w.ownsRow base 2 1 (.slice B.aa B.an B.ac) B.an (B.a.map (Value.int .i64))
  two : ∀ g, (Value.slice B.sa B.sn B.sc).ownBlock = some g → (Value.slice B.aa B.an B.ac).ownBlock ≠ some g
theorem Ar.is_nil (w : World) : Ar.Is ⟨none, 0, 0, none, 0, 0, [], []⟩ w :=
  ⟨⟨rfl, Nat.le_refl _, by simp, Nat.zero_le _, fun h => absurd h (by simp), fun i => by simp [List.getD]⟩, ⟨rfl, Nat.le_refl _, by simp, Nat.zero_le _, fun h => absurd h (by simp), fun i => by simp [List.getD]⟩⟩
theorem Ar.own_nil (w : World) (b : Nat) : Ar.Own ⟨none, 0, 0, none, 0, 0, [], []⟩ w b :=
  ⟨World.ownsRow_nil _ _ _ _, World.ownsRow_nil _ _ _ _, fun g h => by simp [Value.ownBlock] at h⟩
/-- The call hands back an array of its own with these lengths and atoms, and an error number. -/
def MadeE (w : World) (s a : List Int) (err : Int) (e : Ending) (w' : World) : Prop :=
  ∃ B : Ar, e = .returned (.tuple #[B.v, .int .i64 err]) ∧ B.Is w' ∧ B.s = s ∧ B.a = a ∧ B.Own w' w.heap.size ∧ Below w.heap.size w w'
/-- A block of two cells that may be written. -/
structure BoxA (W : World) (b : Nat) (u v : Value) : Prop where
  c0 : W.cell? ⟨b, 0, none⟩ = some u
  c1 : W.cell? ⟨b, 1, none⟩ = some v
  f0 : W.frozen? ⟨b, 0, none⟩ = false
  f1 : W.frozen? ⟨b, 1, none⟩ = false
  lt : b < W.heap.size
theorem BoxA.below {W W' : World} {b : Nat} {u v : Value} (h : BoxA W b u v) {B : Nat} (hb : Below B W W') (hB : b < B) : BoxA W' b u v :=
  ⟨(hb.cell hB).trans h.c0, (hb.cell hB).trans h.c1, (hb.frozen hB).trans h.f0, (hb.frozen hB).trans h.f1, Nat.lt_of_lt_of_le h.lt hb.size⟩
theorem below_box2 (w : World) (A : Array Value) (t : TypeId) (B : Array Value) (u : TypeId) : Below w.heap.size w ((w.alloc (.cells A t)).alloc (.cells B u)) := below_two w A B t u 0
set_option maxHeartbeats 400000 in
theorem item_bad {w : World} {A : Ar} (hA : A.Is w) (i : Int) (hm : amE A.s A.a ≠ 0) :
    Calls Try.prog 39 #[A.v, .int .i64 i] w (MadeE w [] [] 1) := by
  obtain ⟨sa, sn, sc, aa, an, ac, s, a⟩ := A
  obtain ⟨h1, h2⟩ := hA
  simp only [Ar.v] at *
  obtain ⟨W, HWW⟩ : ∃ W, Hid ((w.alloc (.cells #[.slice sa sn sc, .slice aa an ac] 55)).alloc (.cells #[.slice none 0 0, .slice none 0 0] 55) = W) := ⟨_, rfl⟩
  have hw : Below w.heap.size w W := by rw [← HWW.out]; exact below_box2 _ _ _ _ _
  have M := Lib.hid (arrmay_any (A := ⟨sa, sn, sc, aa, an, ac, s, a⟩) ⟨h1.below hw (Nat.le_refl _), h2.below hw (Nat.le_refl _)⟩)
  simp only [Ar.v] at M
  obtain ⟨e, HE⟩ : ∃ e, Hid (amE s a = e) := ⟨_, rfl⟩
  have hm' : (e != 0) = true := by rw [← HE.out]; simpa using hm
  rw [HE.out] at M
  have hsz : W.heap.size = w.heap.size + 2 := by rw [← HWW.out]; simp
  have B1 : BoxA W (w.heap.size + 1) (.slice none 0 0) (.slice none 0 0) := by
    rw [← HWW.out]
    exact ⟨by simp [go_sem], by simp [go_sem], by simp [go_sem], by simp [go_sem], by simp⟩
  have HW := Lib.hid hw
  have SZ := Lib.hid hsz
  have HB1 := Lib.hid B1
  clear h1 h2 hw hm hsz B1
  go_enter Try.func39, Try.ntmps39
  go_wp2_with fail
  rw [HWW.out]
  refine M.out.mono ?_; rintro e w' ⟨rfl, hb⟩
  obtain ⟨k0, k1, k2, k3, k4⟩ := HB1.out.below hb HB1.out.lt
  have HB : Below w.heap.size w w' := HW.out.trans (hb.mono (by have := SZ.out; omega))
  have HBB := Lib.hid HB
  clear HB hb
  go_wp2
  exact bodyPost_ret (v := .tuple #[.agg #[.slice none 0 0, .slice none 0 0], .int .i64 1]) (by simp [results, Try.results39, go_sem, *]) rfl ⟨⟨none, 0, 0, none, 0, 0, [], []⟩, rfl, Ar.is_nil _, rfl, rfl, Ar.own_nil _ _, (HBB.out.setCell (by simp) _).setCell (by simp) _⟩
theorem amE_zero {s a : List Int} (h : amE s a = 0) : mayE s = 0 ∧ pr s = a.length := by
  unfold amE at h
  split at h
  · rename_i h1
    split at h
    · exact ⟨h1, by assumption⟩
    · omega
  · omega
theorem itE_bd {s a : List Int} (h : amE s a = 0) : 0 ≤ itE s a ∧ itE s a ≤ 4096 := by
  obtain ⟨h1, h2⟩ := amE_zero h
  obtain ⟨g1, g2, g3⟩ := mayE_zero h1
  unfold itE
  rw [if_pos h]
  split
  · omega
  · have q1 := g1 0
    have q2 := (pm_up s 0).2.2
    have q3 := pm_all s (0 + 1)
    omega
set_option maxHeartbeats 400000 in
theorem item_index {w : World} {A : Ar} (hA : A.Is w) (i : Int) (hm : amE A.s A.a = 0) (hi : i < -(itE A.s A.a) ∨ itE A.s A.a ≤ i) :
    Calls Try.prog 39 #[A.v, .int .i64 i] w (MadeE w [] [] 13) := by
  obtain ⟨sa, sn, sc, aa, an, ac, s, a⟩ := A
  obtain ⟨h1, h2⟩ := hA
  simp only [Ar.v] at *
  obtain ⟨W, HWW⟩ : ∃ W, Hid ((w.alloc (.cells #[.slice sa sn sc, .slice aa an ac] 55)).alloc (.cells #[.slice none 0 0, .slice none 0 0] 55) = W) := ⟨_, rfl⟩
  have hw : Below w.heap.size w W := by rw [← HWW.out]; exact below_box2 _ _ _ _ _
  have hIs : Ar.Is ⟨sa, sn, sc, aa, an, ac, s, a⟩ W := ⟨h1.below hw (Nat.le_refl _), h2.below hw (Nat.le_refl _)⟩
  have M := Lib.hid (arrmay_any hIs)
  have T := Lib.hid (fun (w1 : World) (hb : Below W.heap.size W w1) => items_any (hIs.below hb (Nat.le_refl _)))
  simp only [Ar.v, hm] at M T
  have hbd := itE_bd hm
  obtain ⟨n, HN⟩ : ∃ n, Hid (itE s a = n) := ⟨_, rfl⟩
  rw [HN.out] at T hi hbd
  obtain ⟨hbd1, hbd2⟩ := hbd
  have hsz : W.heap.size = w.heap.size + 2 := by rw [← HWW.out]; simp
  have B0 : BoxA W w.heap.size (.slice sa sn sc) (.slice aa an ac) := by
    rw [← HWW.out]
    exact ⟨by simp [go_sem], by simp [go_sem], by simp [go_sem], by simp [go_sem], by simp; omega⟩
  have B1 : BoxA W (w.heap.size + 1) (.slice none 0 0) (.slice none 0 0) := by
    rw [← HWW.out]
    exact ⟨by simp [go_sem], by simp [go_sem], by simp [go_sem], by simp [go_sem], by simp⟩
  have HW := Lib.hid hw
  have SZ := Lib.hid hsz
  have HB1 := Lib.hid B1
  have HB0 := Lib.hid B0
  clear h1 h2 hw hm hsz B1 B0 hIs
  go_enter Try.func39, Try.ntmps39
  go_wp2_with fail
  rw [HWW.out]
  refine M.out.mono ?_; rintro e w1 ⟨rfl, hb⟩
  obtain ⟨j0, j1, j2, j3, j4⟩ := HB0.out.below hb HB0.out.lt
  have HB' := Lib.hid hb
  clear hb
  go_wp2_with fail
  refine (T.out w1 HB'.out).mono ?_; rintro e w' ⟨rfl, hb2⟩
  have hb : Below W.heap.size W w' := HB'.out.trans (hb2.mono HB'.out.size)
  clear j0 j1 j2 j3 j4
  obtain ⟨k0, k1, k2, k3, k4⟩ := HB1.out.below hb HB1.out.lt
  have HB : Below w.heap.size w w' := HW.out.trans (hb.mono (by have := SZ.out; omega))
  have HBB := Lib.hid HB
  clear HB hb hb2
  rcases hi with hi | hi
  · go_wp2
    exact bodyPost_ret (v := .tuple #[.agg #[.slice none 0 0, .slice none 0 0], .int .i64 13]) (by simp [results, Try.results39, go_sem, *]) rfl ⟨⟨none, 0, 0, none, 0, 0, [], []⟩, rfl, Ar.is_nil _, rfl, rfl, Ar.own_nil _ _, (HBB.out.setCell (by simp) _).setCell (by simp) _⟩
  · have hi0 : ¬ i < -n := by omega
    go_wp2
    exact bodyPost_ret (v := .tuple #[.agg #[.slice none 0 0, .slice none 0 0], .int .i64 13]) (by simp [results, Try.results39, go_sem, *]) rfl ⟨⟨none, 0, 0, none, 0, 0, [], []⟩, rfl, Ar.is_nil _, rfl, rfl, Ar.own_nil _ _, (HBB.out.setCell (by simp) _).setCell (by simp) _⟩
/-- A part of a slice. -/
theorem Ls.part {w : World} {b off n c : Nat} {zs : List Int} (h : Ls w (some ⟨b, off, none⟩) n c zs) (l k : Nat) (hk : l + k ≤ n) :
    Ls w (some ⟨b, off + l, none⟩) k (c - l) ((zs.drop l).take k) := by
  have h1 := h.len; have h2 := h.cap; have h3 := h.big; have h4 := h.top
  have hg : ∀ i, i < k → ((zs.drop l).take k).getD i 0 = zs.getD (l + i) 0 := fun i hi => by
    simp only [List.getD, List.getElem?_take, List.getElem?_drop, if_pos hi]
  refine ⟨by simp; omega, by omega, by omega, by omega, fun h0 => ?_, fun i => ?_⟩
  · obtain ⟨b', off', e, hlt, hc⟩ := h.mem (by omega)
    cases e
    exact ⟨b, off + l, rfl, hlt, fun i hi => by rw [hg i hi, Nat.add_assoc]; exact hc (l + i) (by omega)⟩
  · by_cases hi : i < k
    · rw [hg i hi]; exact h.rng _
    · rw [show ((zs.drop l).take k).getD i 0 = 0 by simp [List.getD, List.getElem?_take, hi]]; omega
theorem Ls.form {w : World} {ao : Option Addr} {n c : Nat} {zs : List Int} (h : Ls w ao n c zs) (h0 : 0 < n) : ∃ b off, ao = some ⟨b, off, none⟩ := by
  obtain ⟨b, off, e, _⟩ := h.mem h0; exact ⟨b, off, e⟩
theorem Ls.zero (w : World) (ao : Option Addr) {c : Nat} (h : c ≤ maxLen) : Ls w ao 0 c [] :=
  ⟨rfl, Nat.zero_le _, by simp, h, fun h => absurd h (by simp), fun i => by simp [List.getD]⟩
theorem Ls.cut {w : World} {ao : Option Addr} {n c : Nat} {zs : List Int} (h : Ls w ao n c zs) (l k : Nat) (hk : l + k ≤ n) :
    Ls w (ao.map fun x => { block := x.block, off := x.off + l }) k (c - l) ((zs.drop l).take k) := by
  by_cases h0 : 0 < n
  · obtain ⟨b, off, rfl⟩ := h.form h0
    exact h.part l k hk
  · have h1 := h.len; have h4 := h.top
    obtain rfl : k = 0 := by omega
    rw [List.take_zero]
    exact Ls.zero _ _ (by omega)
theorem Ls.cutA {w : World} {ao : Option Addr} {n c : Nat} {zs : List Int} (h : Ls w ao n c zs) (l k : Nat) (hk : l + k ≤ n) :
    Ls w (ao.map fun x => x.add l) k (c - l) ((zs.drop l).take k) := by
  by_cases h0 : 0 < n
  · obtain ⟨b, off, rfl⟩ := h.form h0
    show Ls w (some (Addr.add ⟨b, off, none⟩ l)) _ _ _
    rw [Addr.add_lit]
    exact h.part l k hk
  · have h1 := h.len; have h4 := h.top
    obtain rfl : k = 0 := by omega
    rw [List.take_zero]
    exact Ls.zero _ _ (by omega)
/-- Items have equal parts of the atoms. -/
theorem pr_cons (x : Int) (xs : List Int) : pr (x :: xs) = x * pr xs := by
  have : ∀ (xs : List Int) (a b : Int), xs.foldl (fun n k => n * k) (a * b) = a * xs.foldl (fun n k => n * k) b := by
    intro xs; induction xs with
    | nil => intro a b; rfl
    | cons y ys ih => intro a b; simp only [List.foldl_cons]; rw [Int.mul_assoc, ih]
  have h := this xs x 1
  simpa [pr] using h
theorem item_part {s a : List Int} (h : amE s a = 0) (hn : 1 ≤ itE s a) : ∃ m : Nat, (a.length : Int) = itE s a * m ∧ (m : Int) = pr s.tail ∧ (a.length : Int) / itE s a = m := by
  obtain ⟨h1, h2⟩ := amE_zero h
  obtain ⟨g1, g2, g3⟩ := mayE_zero h1
  cases s with
  | nil => 
    have e : itE [] a = 1 := by simp [itE, h]
    have e2 : pr [] = 1 := rfl
    rw [e] at hn ⊢
    refine ⟨a.length, by omega, by rw [← h2]; rfl, by simp⟩
  | cons x xs =>
    have e : itE (x :: xs) a = x := by simp [itE, h]
    rw [e] at hn ⊢
    rw [pr_cons] at h2
    have hxs : ∀ i, 0 ≤ xs.getD i 0 := fun i => by have := g1 (i + 1); simpa [List.getD] using this
    have hp := (pr_le xs hxs xs.length).1
    rw [List.take_length] at hp
    refine ⟨(pr xs).toNat, by rw [Int.toNat_of_nonneg hp]; exact h2.symm, by simp [Int.toNat_of_nonneg hp], ?_⟩
    rw [Int.toNat_of_nonneg hp, ← h2]
    exact Int.mul_ediv_cancel_left _ (by omega)
theorem ls_of_own {w : World} {base : Nat} {E : TypeId} {ao : Option Addr} {n c : Nat} {zs : List Int} (h : w.ownsRow base E 1 (.slice ao n c) n (zs.map (Value.int .i64))) (hb : n * 8 ≤ 140737488351232)
    (hr : ∀ i, -9223372036854775808 ≤ zs.getD i 0 ∧ zs.getD i 0 ≤ 9223372036854775807) : Ls w ao n c zs := by
  obtain ⟨ao', c', e, h⟩ := ls_own h hb hr
  cases e; exact h
theorem own_block {w : World} {base : Nat} {E : TypeId} {v : Value} {n : Nat} {xs : List Value} (h : w.ownsRow base E 1 v n xs) {g : Nat} (hg : v.ownBlock = some g) : base ≤ g ∧ g < w.heap.size := by
  rcases h.2 with ⟨rfl, _⟩ | ⟨g', cap, cur, rfl, hbg, hg', _⟩
  · simp [Value.ownBlock] at hg
  · simp [Value.ownBlock] at hg
    subst hg
    exact ⟨hbg, (Array.getElem?_eq_some_iff.1 hg').1⟩
theorem own_below {w w' : World} {base B : Nat} {E : TypeId} {v : Value} {n : Nat} {xs : List Value} (h : w.ownsRow base E 1 v n xs) (hb : Below B w w') (hB : w.heap.size ≤ B) : w'.ownsRow base E 1 v n xs := by
  refine ⟨h.1, ?_⟩
  rcases h.2 with h1 | ⟨g, cap, cur, rfl, hbg, hg, h2⟩
  · exact .inl h1
  · refine .inr ⟨g, cap, cur, rfl, hbg, ?_, h2⟩
    rw [hb.block g (by have := (Array.getElem?_eq_some_iff.1 hg).1; omega)]; exact hg
theorem own_mono {w : World} {base base' : Nat} {E : TypeId} {v : Value} {n : Nat} {xs : List Value} (h : w.ownsRow base E 1 v n xs) (hb : base' ≤ base) : w.ownsRow base' E 1 v n xs := by
  refine ⟨h.1, ?_⟩
  rcases h.2 with h1 | ⟨g, cap, cur, rfl, hbg, h2⟩
  · exact .inl h1
  · exact .inr ⟨g, cap, cur, rfl, by omega, h2⟩
theorem made_end {s' a' : List Int} {w w' w2 w3 : World} {ao1 ao2 : Option Addr} {n1 c1 n2 c2 b : Nat} {s a : List Int} (hW : Below w.heap.size w w') (hsz : w.heap.size + 2 ≤ w'.heap.size) (hB1 : Below w'.heap.size w' w2)
    (hO1 : w2.ownsRow w'.heap.size 3 1 (.slice ao1 n1 c1) n1 (s.map (Value.int .i64))) (hB2 : Below w2.heap.size w2 w3)
    (hO2 : w3.ownsRow w2.heap.size 2 1 (.slice ao2 n2 c2) n2 (a.map (Value.int .i64))) (L1 : Ls w2 ao1 n1 c1 s) (L2 : Ls w3 ao2 n2 c2 a) (err : Int) (u v : Value) (hb : b = w.heap.size + 1) (es : s' = s) (ea : a' = a) :
    MadeE w s' a' err (.returned (.tuple #[.agg #[.slice ao1 n1 c1, .slice ao2 n2 c2], .int .i64 err])) ((w3.setCell ⟨b, 0, none⟩ u).setCell ⟨b, 1, none⟩ v) := by
  rw [es, ea]
  have hs1 := hB1.size
  have O1 : ((w3.setCell ⟨b, 0, none⟩ u).setCell ⟨b, 1, none⟩ v).ownsRow w'.heap.size 3 1 (.slice ao1 n1 c1) n1 (s.map (Value.int .i64)) :=
    ownsRow_setCell_below (ownsRow_setCell_below (own_below hO1 hB2 (Nat.le_refl _)) (by show b < _; omega) _) (by show b < _; omega) _
  have O2 : ((w3.setCell ⟨b, 0, none⟩ u).setCell ⟨b, 1, none⟩ v).ownsRow w2.heap.size 2 1 (.slice ao2 n2 c2) n2 (a.map (Value.int .i64)) :=
    ownsRow_setCell_below (ownsRow_setCell_below hO2 (by show b < _; omega) _) (by show b < _; omega) _
  refine ⟨⟨ao1, n1, c1, ao2, n2, c2, s, a⟩, rfl, ⟨ls_of_own O1 L1.big L1.rng, ls_of_own O2 L2.big L2.rng⟩, rfl, rfl, ⟨own_mono O1 (by omega), own_mono O2 (by omega), ?_⟩, ?_⟩
  · intro g h1 h2
    have q1 := own_block hO1 h1
    have q2 := own_block hO2 h2
    omega
  · exact (((hW.trans (hB1.mono (by omega))).trans (hB2.mono (by omega))).setCell (by show _ ≤ b; omega) _).setCell (by show _ ≤ b; omega) _
def itemA (a : List Int) (j m : Nat) : List Int := (a.drop (j * m)).take m
set_option maxRecDepth 100000 in
set_option maxHeartbeats 800000 in
theorem item_ok0 {w : World} {A : Ar} (hA : A.Is w) (i : Int) (hm : amE A.s A.a = 0) (hi1 : -(itE A.s A.a) ≤ i) (hi2 : i < itE A.s A.a) (hneg : i < 0) (hemp : A.sn = 0) (j m : Nat)
    (hj : (j : Int) = if i < 0 then i + itE A.s A.a else i) (hmm : (m : Int) = pr A.s.tail) :
    Calls Try.prog 39 #[A.v, .int .i64 i] w (MadeE w A.s.tail (itemA A.a j m) 0) := by
  obtain ⟨sa, sn, sc, aa, an, ac, s, a⟩ := A
  obtain ⟨h1, h2⟩ := hA
  simp only [Ar.v] at *
  first | subst hemp | (obtain ⟨rfl, rfl⟩ := hemp) | (obtain ⟨he1, he2⟩ := hemp)
  have hc1 := h1.cap
  have hc2 := h2.cap
  have hc3 := h1.top
  have hc4 := h2.top
  have hl1 := h1.len
  obtain ⟨W, HWW⟩ : ∃ W, Hid ((w.alloc (.cells #[.slice sa 0 sc, .slice aa an ac] 55)).alloc (.cells #[.slice none 0 0, .slice none 0 0] 55) = W) := ⟨_, rfl⟩
  have hw : Below w.heap.size w W := by rw [← HWW.out]; exact below_box2 _ _ _ _ _
  have hIs : Ar.Is ⟨sa, 0, sc, aa, an, ac, s, a⟩ W := ⟨h1.below hw (Nat.le_refl _), h2.below hw (Nat.le_refl _)⟩
  have M := Lib.hid (arrmay_any hIs)
  have T := Lib.hid (fun (w1 : World) (hb : Below W.heap.size W w1) => items_any (hIs.below hb (Nat.le_refl _)))
  simp only [Ar.v, hm] at M T
  have hbd := itE_bd hm
  have hn1 : 1 ≤ itE s a := by omega
  obtain ⟨m', e1, e2, e3⟩ := item_part hm hn1
  obtain rfl : m' = m := by rw [← hmm] at e2; omega
  obtain ⟨n, HN⟩ : ∃ n, Hid (itE s a = n) := ⟨_, rfl⟩
  rw [HN.out] at T hi1 hi2 hbd hj hn1 e1 e3
  rw [h2.len] at e1 e3
  obtain ⟨hbd1, hbd2⟩ := hbd
  have hj2 : (j : Int) < n := by split at hj <;> omega
  have hjm : j * m' + m' ≤ an := by
    have q1 : (j : Int) + 1 ≤ n := by omega
    have q2 : ((j : Int) + 1) * m' ≤ n * m' := Int.mul_le_mul_of_nonneg_right q1 (by omega)
    rw [← e1, Int.add_mul, Int.one_mul] at q2
    omega
  have han : (an : Int) ≤ 4096 := by
    obtain ⟨q1, q2⟩ := amE_zero hm
    obtain ⟨g1, g2, g3⟩ := mayE_zero q1
    have q3 := pr_le s g1 s.length
    rw [List.take_length] at q3
    have := h2.len
    omega
  obtain ⟨p, HP⟩ : ∃ p, Hid (j * m' = p) := ⟨_, rfl⟩
  have hmul : (i + n) * (m' : Int) = (p : Int) := by
    have : (i + n) = (j : Int) := by rw [hj]; split <;> first | rfl | omega
    rw [this, ← HP.out]; simp
  rw [HP.out] at hjm
  have hsz : W.heap.size = w.heap.size + 2 := by rw [← HWW.out]; simp
  have B0 : BoxA W w.heap.size (.slice sa 0 sc) (.slice aa an ac) := by
    rw [← HWW.out]
    exact ⟨by simp [go_sem], by simp [go_sem], by simp [go_sem], by simp [go_sem], by simp; omega⟩
  have B1 : BoxA W (w.heap.size + 1) (.slice none 0 0) (.slice none 0 0) := by
    rw [← HWW.out]
    exact ⟨by simp [go_sem], by simp [go_sem], by simp [go_sem], by simp [go_sem], by simp⟩
  have HW := Lib.hid hw
  have SZ := Lib.hid hsz
  have HB1 := Lib.hid B1
  have HB0 := Lib.hid B0
  have HJ := Lib.hid hj
  have HIS := Lib.hid hIs
  clear h1 h2 hw hm hsz B1 B0 hIs hmm e1 e2 hj hj2
  go_enter Try.func39, Try.ntmps39
  go_wp2_with fail
  rw [HWW.out]
  refine M.out.mono ?_; rintro e w1 ⟨rfl, hb⟩
  obtain ⟨j0, j1, j2, j3, j4⟩ := HB0.out.below hb HB0.out.lt
  have HB' := Lib.hid hb
  clear hb
  go_wp2_with fail
  refine (T.out w1 HB'.out).mono ?_; rintro e w' ⟨rfl, hb2⟩
  have hb : Below W.heap.size W w' := HB'.out.trans (hb2.mono HB'.out.size)
  clear j0 j1 j2 j3 j4
  obtain ⟨j0, j1, j2, j3, j4⟩ := HB0.out.below hb HB0.out.lt
  obtain ⟨k0, k1, k2, k3, k4⟩ := HB1.out.below hb HB1.out.lt
  have CA := Lib.hid (fun W1 (hB : Below w'.heap.size w' W1) => clone_any ((HIS.out.shp.below hb (Nat.le_refl _)).below hB (Nat.le_refl _)))
  have HK0 := Lib.hid (HB0.out.below hb HB0.out.lt)
  have HK1 := Lib.hid (HB1.out.below hb HB1.out.lt)
  have HI := Lib.hid (HIS.out.below hb (Nat.le_refl _))
  have HB : Below w.heap.size w w' := HW.out.trans (hb.mono (by have := SZ.out; omega))
  have HBB := Lib.hid HB
  have HSW : Hid (w.heap.size + 2 ≤ w'.heap.size) := by show _ ≤ _; have h1 := SZ.out; have h2 := hb.size; omega
  have HTL : Hid (s.tail = s) := by
    show _ = _
    first | rfl | (rw [List.eq_nil_of_length_eq_zero hl1]; rfl) | (rw [List.drop_one, List.take_of_length_le]; simp [hl1]) | (exact List.eq_nil_of_length_eq_zero (by simp [hl1]))
  clear HB hb hb2
  go_wp2_with fail
  rcases (show p = ac ∨ p < ac by omega) with hpc | hpc
  · obtain rfl : m' = 0 := by omega
    have hp0 : p = 0 := by rw [← HP.out]; simp
    obtain rfl : ac = 0 := by omega
    subst hp0
    have CB := Lib.hid (fun W1 (hB : Below w'.heap.size w' W1) => clone6_any (Ls.zero W1 aa (Nat.zero_le _ : 0 ≤ maxLen)))
    have z5 : IntKind.i64.wrap (0 : Int) = 0 := IntWalk.i64_in _ (by omega)
    have HIA : Hid (itemA a j 0 = []) := by show _ = _; simp [itemA]
    clear hmul hpc
    go_region_held3 (fun w'' => w''.cell? ⟨w.heap.size, 1, none⟩ = some (.slice aa an 0)) (go_keep)
      (first
        | (go_at_call 86; refine (CA.out _ ?_).mono ?_; (exact (Below.refl _ _).drew); rintro e w2 ⟨ao1, c1, rfl, hL1, hO1, hB0⟩; have hB1 : Below w'.heap.size w' w2 := ((Below.refl _ _).drew).trans hB0; have r1 := (hB1.cell (p := ⟨w.heap.size, 1, none⟩) HK0.out.lt).trans HK0.out.c1)
        | (go_at_call 87; refine (CB.out _ ?_).mono ?_; (exact hB1); rintro e w3 ⟨ao2, c2, rfl, hL2, hO2, hB2⟩; have r2 := ((HK0.out.below hB1 HK0.out.lt).below hB2 (Nat.lt_of_lt_of_le HK0.out.lt hB1.size)).c1; obtain ⟨q0, q1, q2, q3, q4⟩ := (HK1.out.below hB1 HK1.out.lt).below hB2 (Nat.lt_of_lt_of_le HK1.out.lt hB1.size)))
    have HE1 := Lib.hid (made_end HBB.out HSW.out hB1 hO1 hB2 hO2 hL1 hL2 0 (.slice ao1 (0) c1) (.slice ao2 0 c2) rfl HTL.out HIA.out)
    clear hB1 hO1 hB2 hO2 hL1 hL2 hB0
    go_wp2
    exact bodyPost_ret (v := .tuple #[.agg #[.slice ao1 (0) c1, .slice ao2 0 c2], .int .i64 0]) (by simp [results, Try.results39, go_sem, *]) rfl HE1.out
  · have CB := Lib.hid (fun W1 (hB : Below w'.heap.size w' W1) => clone6_any ((HI.out.ats.cutA p m' hjm).below hB (Nat.le_refl _)))
    have HIA : Hid (itemA a j m' = (a.drop p).take m') := by show _ = _; rw [← HP.out]; rfl
    have z0 : ¬ ac = p := by omega
    have z1 : (0 : Int) ≤ p := by omega
    have z2 : (p : Int) ≤ p + m' := by omega
    have z3 : (p : Int) + m' ≤ ac := by omega
    have z4 : IntKind.i64.wrap ((p : Int) + m') = p + m' := IntWalk.i64_in _ (by omega)
    have z5 : ((p : Int) + m').toNat = p + m' := by omega
    have z6 : IntKind.i64.wrap ((i + n) * m') = p := by rw [hmul]; exact IntWalk.i64_in _ (by omega)
    have z7 : (p : Int) < ac := by omega
    have z8 : ¬ ac - p = 0 := by omega
    have z9 : p + m' - p = m' := by omega
    have z10 : IntKind.i64.wrap (p : Int) = p := IntWalk.i64_in _ (by omega)
    clear hmul
    go_region_held3 (fun w'' => w''.cell? ⟨w.heap.size, 1, none⟩ = some (.slice aa an ac)) (go_keep)
      (first
        | (go_at_call 86; refine (CA.out _ ?_).mono ?_; (exact (Below.refl _ _).drew); rintro e w2 ⟨ao1, c1, rfl, hL1, hO1, hB0⟩; have hB1 : Below w'.heap.size w' w2 := ((Below.refl _ _).drew).trans hB0; have r1 := (hB1.cell (p := ⟨w.heap.size, 1, none⟩) HK0.out.lt).trans HK0.out.c1)
        | (go_at_call 87; refine (CB.out _ ?_).mono ?_; (exact hB1); rintro e w3 ⟨ao2, c2, rfl, hL2, hO2, hB2⟩; have r2 := ((HK0.out.below hB1 HK0.out.lt).below hB2 (Nat.lt_of_lt_of_le HK0.out.lt hB1.size)).c1; obtain ⟨q0, q1, q2, q3, q4⟩ := (HK1.out.below hB1 HK1.out.lt).below hB2 (Nat.lt_of_lt_of_le HK1.out.lt hB1.size)))
    have HE1 := Lib.hid (made_end HBB.out HSW.out hB1 hO1 hB2 hO2 hL1 hL2 0 (.slice ao1 (0) c1) (.slice ao2 m' c2) rfl HTL.out HIA.out)
    clear hB1 hO1 hB2 hO2 hL1 hL2 hB0
    go_wp2
    exact bodyPost_ret (v := .tuple #[.agg #[.slice ao1 (0) c1, .slice ao2 m' c2], .int .i64 0]) (by simp [results, Try.results39, go_sem, *]) rfl HE1.out
set_option maxRecDepth 100000 in
set_option maxHeartbeats 800000 in
theorem item_ok1 {w : World} {A : Ar} (hA : A.Is w) (i : Int) (hm : amE A.s A.a = 0) (hi1 : -(itE A.s A.a) ≤ i) (hi2 : i < itE A.s A.a) (hneg : i < 0) (hemp : 1 < A.sc ∧ 0 < A.sn) (j m : Nat)
    (hj : (j : Int) = if i < 0 then i + itE A.s A.a else i) (hmm : (m : Int) = pr A.s.tail) :
    Calls Try.prog 39 #[A.v, .int .i64 i] w (MadeE w A.s.tail (itemA A.a j m) 0) := by
  obtain ⟨sa, sn, sc, aa, an, ac, s, a⟩ := A
  obtain ⟨h1, h2⟩ := hA
  simp only [Ar.v] at *
  first | subst hemp | (obtain ⟨rfl, rfl⟩ := hemp) | (obtain ⟨he1, he2⟩ := hemp)
  have hc1 := h1.cap
  have hc2 := h2.cap
  have hc3 := h1.top
  have hc4 := h2.top
  have hl1 := h1.len
  obtain ⟨W, HWW⟩ : ∃ W, Hid ((w.alloc (.cells #[.slice sa sn sc, .slice aa an ac] 55)).alloc (.cells #[.slice none 0 0, .slice none 0 0] 55) = W) := ⟨_, rfl⟩
  have hw : Below w.heap.size w W := by rw [← HWW.out]; exact below_box2 _ _ _ _ _
  have hIs : Ar.Is ⟨sa, sn, sc, aa, an, ac, s, a⟩ W := ⟨h1.below hw (Nat.le_refl _), h2.below hw (Nat.le_refl _)⟩
  have M := Lib.hid (arrmay_any hIs)
  have T := Lib.hid (fun (w1 : World) (hb : Below W.heap.size W w1) => items_any (hIs.below hb (Nat.le_refl _)))
  simp only [Ar.v, hm] at M T
  have hbd := itE_bd hm
  have hn1 : 1 ≤ itE s a := by omega
  obtain ⟨m', e1, e2, e3⟩ := item_part hm hn1
  obtain rfl : m' = m := by rw [← hmm] at e2; omega
  obtain ⟨n, HN⟩ : ∃ n, Hid (itE s a = n) := ⟨_, rfl⟩
  rw [HN.out] at T hi1 hi2 hbd hj hn1 e1 e3
  rw [h2.len] at e1 e3
  obtain ⟨hbd1, hbd2⟩ := hbd
  have hj2 : (j : Int) < n := by split at hj <;> omega
  have hjm : j * m' + m' ≤ an := by
    have q1 : (j : Int) + 1 ≤ n := by omega
    have q2 : ((j : Int) + 1) * m' ≤ n * m' := Int.mul_le_mul_of_nonneg_right q1 (by omega)
    rw [← e1, Int.add_mul, Int.one_mul] at q2
    omega
  have han : (an : Int) ≤ 4096 := by
    obtain ⟨q1, q2⟩ := amE_zero hm
    obtain ⟨g1, g2, g3⟩ := mayE_zero q1
    have q3 := pr_le s g1 s.length
    rw [List.take_length] at q3
    have := h2.len
    omega
  obtain ⟨p, HP⟩ : ∃ p, Hid (j * m' = p) := ⟨_, rfl⟩
  have hmul : (i + n) * (m' : Int) = (p : Int) := by
    have : (i + n) = (j : Int) := by rw [hj]; split <;> first | rfl | omega
    rw [this, ← HP.out]; simp
  rw [HP.out] at hjm
  have hsz : W.heap.size = w.heap.size + 2 := by rw [← HWW.out]; simp
  have B0 : BoxA W w.heap.size (.slice sa sn sc) (.slice aa an ac) := by
    rw [← HWW.out]
    exact ⟨by simp [go_sem], by simp [go_sem], by simp [go_sem], by simp [go_sem], by simp; omega⟩
  have B1 : BoxA W (w.heap.size + 1) (.slice none 0 0) (.slice none 0 0) := by
    rw [← HWW.out]
    exact ⟨by simp [go_sem], by simp [go_sem], by simp [go_sem], by simp [go_sem], by simp⟩
  have HW := Lib.hid hw
  have SZ := Lib.hid hsz
  have HB1 := Lib.hid B1
  have HB0 := Lib.hid B0
  have HJ := Lib.hid hj
  have HIS := Lib.hid hIs
  clear h1 h2 hw hm hsz B1 B0 hIs hmm e1 e2 hj hj2
  go_enter Try.func39, Try.ntmps39
  go_wp2_with fail
  rw [HWW.out]
  refine M.out.mono ?_; rintro e w1 ⟨rfl, hb⟩
  obtain ⟨j0, j1, j2, j3, j4⟩ := HB0.out.below hb HB0.out.lt
  have HB' := Lib.hid hb
  clear hb
  go_wp2_with fail
  refine (T.out w1 HB'.out).mono ?_; rintro e w' ⟨rfl, hb2⟩
  have hb : Below W.heap.size W w' := HB'.out.trans (hb2.mono HB'.out.size)
  clear j0 j1 j2 j3 j4
  obtain ⟨j0, j1, j2, j3, j4⟩ := HB0.out.below hb HB0.out.lt
  obtain ⟨k0, k1, k2, k3, k4⟩ := HB1.out.below hb HB1.out.lt
  have CA := Lib.hid (fun W1 (hB : Below w'.heap.size w' W1) => clone_any (((HIS.out.shp.below hb (Nat.le_refl _)).below hB (Nat.le_refl _)).cut 1 (sn - 1) (show 1 + (sn - 1) ≤ sn by omega)))
  have HK0 := Lib.hid (HB0.out.below hb HB0.out.lt)
  have HK1 := Lib.hid (HB1.out.below hb HB1.out.lt)
  have HI := Lib.hid (HIS.out.below hb (Nat.le_refl _))
  have HB : Below w.heap.size w w' := HW.out.trans (hb.mono (by have := SZ.out; omega))
  have HBB := Lib.hid HB
  have HSW : Hid (w.heap.size + 2 ≤ w'.heap.size) := by show _ ≤ _; have h1 := SZ.out; have h2 := hb.size; omega
  have HTL : Hid (s.tail = (s.drop 1).take (sn - 1)) := by
    show _ = _
    first | rfl | (rw [List.eq_nil_of_length_eq_zero hl1]; rfl) | (rw [List.drop_one, List.take_of_length_le]; simp [hl1]) | (exact List.eq_nil_of_length_eq_zero (by simp [hl1]))
  clear HB hb hb2
  go_wp2_with fail
  rcases (show p = ac ∨ p < ac by omega) with hpc | hpc
  · obtain rfl : m' = 0 := by omega
    have hp0 : p = 0 := by rw [← HP.out]; simp
    obtain rfl : ac = 0 := by omega
    subst hp0
    have CB := Lib.hid (fun W1 (hB : Below w'.heap.size w' W1) => clone6_any (Ls.zero W1 aa (Nat.zero_le _ : 0 ≤ maxLen)))
    have z5 : IntKind.i64.wrap (0 : Int) = 0 := IntWalk.i64_in _ (by omega)
    have HIA : Hid (itemA a j 0 = []) := by show _ = _; simp [itemA]
    clear hmul hpc
    go_region_held3 (fun w'' => w''.cell? ⟨w.heap.size, 1, none⟩ = some (.slice aa an 0)) (go_keep)
      (first
        | (go_at_call 86; refine (CA.out _ ?_).mono ?_; (exact (Below.refl _ _).drew); rintro e w2 ⟨ao1, c1, rfl, hL1, hO1, hB0⟩; have hB1 : Below w'.heap.size w' w2 := ((Below.refl _ _).drew).trans hB0; have r1 := (hB1.cell (p := ⟨w.heap.size, 1, none⟩) HK0.out.lt).trans HK0.out.c1)
        | (go_at_call 87; refine (CB.out _ ?_).mono ?_; (exact hB1); rintro e w3 ⟨ao2, c2, rfl, hL2, hO2, hB2⟩; have r2 := ((HK0.out.below hB1 HK0.out.lt).below hB2 (Nat.lt_of_lt_of_le HK0.out.lt hB1.size)).c1; obtain ⟨q0, q1, q2, q3, q4⟩ := (HK1.out.below hB1 HK1.out.lt).below hB2 (Nat.lt_of_lt_of_le HK1.out.lt hB1.size)))
    have HE1 := Lib.hid (made_end HBB.out HSW.out hB1 hO1 hB2 hO2 hL1 hL2 0 (.slice ao1 (sn - 1) c1) (.slice ao2 0 c2) rfl HTL.out HIA.out)
    clear hB1 hO1 hB2 hO2 hL1 hL2 hB0
    go_wp2
    exact bodyPost_ret (v := .tuple #[.agg #[.slice ao1 (sn - 1) c1, .slice ao2 0 c2], .int .i64 0]) (by simp [results, Try.results39, go_sem, *]) rfl HE1.out
  · have CB := Lib.hid (fun W1 (hB : Below w'.heap.size w' W1) => clone6_any ((HI.out.ats.cutA p m' hjm).below hB (Nat.le_refl _)))
    have HIA : Hid (itemA a j m' = (a.drop p).take m') := by show _ = _; rw [← HP.out]; rfl
    have z0 : ¬ ac = p := by omega
    have z1 : (0 : Int) ≤ p := by omega
    have z2 : (p : Int) ≤ p + m' := by omega
    have z3 : (p : Int) + m' ≤ ac := by omega
    have z4 : IntKind.i64.wrap ((p : Int) + m') = p + m' := IntWalk.i64_in _ (by omega)
    have z5 : ((p : Int) + m').toNat = p + m' := by omega
    have z6 : IntKind.i64.wrap ((i + n) * m') = p := by rw [hmul]; exact IntWalk.i64_in _ (by omega)
    have z7 : (p : Int) < ac := by omega
    have z8 : ¬ ac - p = 0 := by omega
    have z9 : p + m' - p = m' := by omega
    have z10 : IntKind.i64.wrap (p : Int) = p := IntWalk.i64_in _ (by omega)
    clear hmul
    go_region_held3 (fun w'' => w''.cell? ⟨w.heap.size, 1, none⟩ = some (.slice aa an ac)) (go_keep)
      (first
        | (go_at_call 86; refine (CA.out _ ?_).mono ?_; (exact (Below.refl _ _).drew); rintro e w2 ⟨ao1, c1, rfl, hL1, hO1, hB0⟩; have hB1 : Below w'.heap.size w' w2 := ((Below.refl _ _).drew).trans hB0; have r1 := (hB1.cell (p := ⟨w.heap.size, 1, none⟩) HK0.out.lt).trans HK0.out.c1)
        | (go_at_call 87; refine (CB.out _ ?_).mono ?_; (exact hB1); rintro e w3 ⟨ao2, c2, rfl, hL2, hO2, hB2⟩; have r2 := ((HK0.out.below hB1 HK0.out.lt).below hB2 (Nat.lt_of_lt_of_le HK0.out.lt hB1.size)).c1; obtain ⟨q0, q1, q2, q3, q4⟩ := (HK1.out.below hB1 HK1.out.lt).below hB2 (Nat.lt_of_lt_of_le HK1.out.lt hB1.size)))
    have HE1 := Lib.hid (made_end HBB.out HSW.out hB1 hO1 hB2 hO2 hL1 hL2 0 (.slice ao1 (sn - 1) c1) (.slice ao2 m' c2) rfl HTL.out HIA.out)
    clear hB1 hO1 hB2 hO2 hL1 hL2 hB0
    go_wp2
    exact bodyPost_ret (v := .tuple #[.agg #[.slice ao1 (sn - 1) c1, .slice ao2 m' c2], .int .i64 0]) (by simp [results, Try.results39, go_sem, *]) rfl HE1.out
set_option maxRecDepth 100000 in
set_option maxHeartbeats 800000 in
theorem item_ok2 {w : World} {A : Ar} (hA : A.Is w) (i : Int) (hm : amE A.s A.a = 0) (hi1 : -(itE A.s A.a) ≤ i) (hi2 : i < itE A.s A.a) (hneg : i < 0) (hemp : A.sc = 1 ∧ A.sn = 1) (j m : Nat)
    (hj : (j : Int) = if i < 0 then i + itE A.s A.a else i) (hmm : (m : Int) = pr A.s.tail) :
    Calls Try.prog 39 #[A.v, .int .i64 i] w (MadeE w A.s.tail (itemA A.a j m) 0) := by
  obtain ⟨sa, sn, sc, aa, an, ac, s, a⟩ := A
  obtain ⟨h1, h2⟩ := hA
  simp only [Ar.v] at *
  first | subst hemp | (obtain ⟨rfl, rfl⟩ := hemp) | (obtain ⟨he1, he2⟩ := hemp)
  have hc1 := h1.cap
  have hc2 := h2.cap
  have hc3 := h1.top
  have hc4 := h2.top
  have hl1 := h1.len
  obtain ⟨W, HWW⟩ : ∃ W, Hid ((w.alloc (.cells #[.slice sa 1 1, .slice aa an ac] 55)).alloc (.cells #[.slice none 0 0, .slice none 0 0] 55) = W) := ⟨_, rfl⟩
  have hw : Below w.heap.size w W := by rw [← HWW.out]; exact below_box2 _ _ _ _ _
  have hIs : Ar.Is ⟨sa, 1, 1, aa, an, ac, s, a⟩ W := ⟨h1.below hw (Nat.le_refl _), h2.below hw (Nat.le_refl _)⟩
  have M := Lib.hid (arrmay_any hIs)
  have T := Lib.hid (fun (w1 : World) (hb : Below W.heap.size W w1) => items_any (hIs.below hb (Nat.le_refl _)))
  simp only [Ar.v, hm] at M T
  have hbd := itE_bd hm
  have hn1 : 1 ≤ itE s a := by omega
  obtain ⟨m', e1, e2, e3⟩ := item_part hm hn1
  obtain rfl : m' = m := by rw [← hmm] at e2; omega
  obtain ⟨n, HN⟩ : ∃ n, Hid (itE s a = n) := ⟨_, rfl⟩
  rw [HN.out] at T hi1 hi2 hbd hj hn1 e1 e3
  rw [h2.len] at e1 e3
  obtain ⟨hbd1, hbd2⟩ := hbd
  have hj2 : (j : Int) < n := by split at hj <;> omega
  have hjm : j * m' + m' ≤ an := by
    have q1 : (j : Int) + 1 ≤ n := by omega
    have q2 : ((j : Int) + 1) * m' ≤ n * m' := Int.mul_le_mul_of_nonneg_right q1 (by omega)
    rw [← e1, Int.add_mul, Int.one_mul] at q2
    omega
  have han : (an : Int) ≤ 4096 := by
    obtain ⟨q1, q2⟩ := amE_zero hm
    obtain ⟨g1, g2, g3⟩ := mayE_zero q1
    have q3 := pr_le s g1 s.length
    rw [List.take_length] at q3
    have := h2.len
    omega
  obtain ⟨p, HP⟩ : ∃ p, Hid (j * m' = p) := ⟨_, rfl⟩
  have hmul : (i + n) * (m' : Int) = (p : Int) := by
    have : (i + n) = (j : Int) := by rw [hj]; split <;> first | rfl | omega
    rw [this, ← HP.out]; simp
  rw [HP.out] at hjm
  have hsz : W.heap.size = w.heap.size + 2 := by rw [← HWW.out]; simp
  have B0 : BoxA W w.heap.size (.slice sa 1 1) (.slice aa an ac) := by
    rw [← HWW.out]
    exact ⟨by simp [go_sem], by simp [go_sem], by simp [go_sem], by simp [go_sem], by simp; omega⟩
  have B1 : BoxA W (w.heap.size + 1) (.slice none 0 0) (.slice none 0 0) := by
    rw [← HWW.out]
    exact ⟨by simp [go_sem], by simp [go_sem], by simp [go_sem], by simp [go_sem], by simp⟩
  have HW := Lib.hid hw
  have SZ := Lib.hid hsz
  have HB1 := Lib.hid B1
  have HB0 := Lib.hid B0
  have HJ := Lib.hid hj
  have HIS := Lib.hid hIs
  clear h1 h2 hw hm hsz B1 B0 hIs hmm e1 e2 hj hj2
  go_enter Try.func39, Try.ntmps39
  go_wp2_with fail
  rw [HWW.out]
  refine M.out.mono ?_; rintro e w1 ⟨rfl, hb⟩
  obtain ⟨j0, j1, j2, j3, j4⟩ := HB0.out.below hb HB0.out.lt
  have HB' := Lib.hid hb
  clear hb
  go_wp2_with fail
  refine (T.out w1 HB'.out).mono ?_; rintro e w' ⟨rfl, hb2⟩
  have hb : Below W.heap.size W w' := HB'.out.trans (hb2.mono HB'.out.size)
  clear j0 j1 j2 j3 j4
  obtain ⟨j0, j1, j2, j3, j4⟩ := HB0.out.below hb HB0.out.lt
  obtain ⟨k0, k1, k2, k3, k4⟩ := HB1.out.below hb HB1.out.lt
  have CA := Lib.hid (fun W1 (hB : Below w'.heap.size w' W1) => clone_any (Ls.zero W1 sa (Nat.zero_le _ : 0 ≤ maxLen)))
  have HK0 := Lib.hid (HB0.out.below hb HB0.out.lt)
  have HK1 := Lib.hid (HB1.out.below hb HB1.out.lt)
  have HI := Lib.hid (HIS.out.below hb (Nat.le_refl _))
  have HB : Below w.heap.size w w' := HW.out.trans (hb.mono (by have := SZ.out; omega))
  have HBB := Lib.hid HB
  have HSW : Hid (w.heap.size + 2 ≤ w'.heap.size) := by show _ ≤ _; have h1 := SZ.out; have h2 := hb.size; omega
  have HTL : Hid (s.tail = ([] : List Int)) := by
    show _ = _
    first | rfl | (rw [List.eq_nil_of_length_eq_zero hl1]; rfl) | (rw [List.drop_one, List.take_of_length_le]; simp [hl1]) | (exact List.eq_nil_of_length_eq_zero (by simp [hl1]))
  clear HB hb hb2
  go_wp2_with fail
  rcases (show p = ac ∨ p < ac by omega) with hpc | hpc
  · obtain rfl : m' = 0 := by omega
    have hp0 : p = 0 := by rw [← HP.out]; simp
    obtain rfl : ac = 0 := by omega
    subst hp0
    have CB := Lib.hid (fun W1 (hB : Below w'.heap.size w' W1) => clone6_any (Ls.zero W1 aa (Nat.zero_le _ : 0 ≤ maxLen)))
    have z5 : IntKind.i64.wrap (0 : Int) = 0 := IntWalk.i64_in _ (by omega)
    have HIA : Hid (itemA a j 0 = []) := by show _ = _; simp [itemA]
    clear hmul hpc
    go_region_held3 (fun w'' => w''.cell? ⟨w.heap.size, 1, none⟩ = some (.slice aa an 0)) (go_keep)
      (first
        | (go_at_call 86; refine (CA.out _ ?_).mono ?_; (exact (Below.refl _ _).drew); rintro e w2 ⟨ao1, c1, rfl, hL1, hO1, hB0⟩; have hB1 : Below w'.heap.size w' w2 := ((Below.refl _ _).drew).trans hB0; have r1 := (hB1.cell (p := ⟨w.heap.size, 1, none⟩) HK0.out.lt).trans HK0.out.c1)
        | (go_at_call 87; refine (CB.out _ ?_).mono ?_; (exact hB1); rintro e w3 ⟨ao2, c2, rfl, hL2, hO2, hB2⟩; have r2 := ((HK0.out.below hB1 HK0.out.lt).below hB2 (Nat.lt_of_lt_of_le HK0.out.lt hB1.size)).c1; obtain ⟨q0, q1, q2, q3, q4⟩ := (HK1.out.below hB1 HK1.out.lt).below hB2 (Nat.lt_of_lt_of_le HK1.out.lt hB1.size)))
    have HE1 := Lib.hid (made_end HBB.out HSW.out hB1 hO1 hB2 hO2 hL1 hL2 0 (.slice ao1 (0) c1) (.slice ao2 0 c2) rfl HTL.out HIA.out)
    clear hB1 hO1 hB2 hO2 hL1 hL2 hB0
    go_wp2
    exact bodyPost_ret (v := .tuple #[.agg #[.slice ao1 (0) c1, .slice ao2 0 c2], .int .i64 0]) (by simp [results, Try.results39, go_sem, *]) rfl HE1.out
  · have CB := Lib.hid (fun W1 (hB : Below w'.heap.size w' W1) => clone6_any ((HI.out.ats.cutA p m' hjm).below hB (Nat.le_refl _)))
    have HIA : Hid (itemA a j m' = (a.drop p).take m') := by show _ = _; rw [← HP.out]; rfl
    have z0 : ¬ ac = p := by omega
    have z1 : (0 : Int) ≤ p := by omega
    have z2 : (p : Int) ≤ p + m' := by omega
    have z3 : (p : Int) + m' ≤ ac := by omega
    have z4 : IntKind.i64.wrap ((p : Int) + m') = p + m' := IntWalk.i64_in _ (by omega)
    have z5 : ((p : Int) + m').toNat = p + m' := by omega
    have z6 : IntKind.i64.wrap ((i + n) * m') = p := by rw [hmul]; exact IntWalk.i64_in _ (by omega)
    have z7 : (p : Int) < ac := by omega
    have z8 : ¬ ac - p = 0 := by omega
    have z9 : p + m' - p = m' := by omega
    have z10 : IntKind.i64.wrap (p : Int) = p := IntWalk.i64_in _ (by omega)
    clear hmul
    go_region_held3 (fun w'' => w''.cell? ⟨w.heap.size, 1, none⟩ = some (.slice aa an ac)) (go_keep)
      (first
        | (go_at_call 86; refine (CA.out _ ?_).mono ?_; (exact (Below.refl _ _).drew); rintro e w2 ⟨ao1, c1, rfl, hL1, hO1, hB0⟩; have hB1 : Below w'.heap.size w' w2 := ((Below.refl _ _).drew).trans hB0; have r1 := (hB1.cell (p := ⟨w.heap.size, 1, none⟩) HK0.out.lt).trans HK0.out.c1)
        | (go_at_call 87; refine (CB.out _ ?_).mono ?_; (exact hB1); rintro e w3 ⟨ao2, c2, rfl, hL2, hO2, hB2⟩; have r2 := ((HK0.out.below hB1 HK0.out.lt).below hB2 (Nat.lt_of_lt_of_le HK0.out.lt hB1.size)).c1; obtain ⟨q0, q1, q2, q3, q4⟩ := (HK1.out.below hB1 HK1.out.lt).below hB2 (Nat.lt_of_lt_of_le HK1.out.lt hB1.size)))
    have HE1 := Lib.hid (made_end HBB.out HSW.out hB1 hO1 hB2 hO2 hL1 hL2 0 (.slice ao1 (0) c1) (.slice ao2 m' c2) rfl HTL.out HIA.out)
    clear hB1 hO1 hB2 hO2 hL1 hL2 hB0
    go_wp2
    exact bodyPost_ret (v := .tuple #[.agg #[.slice ao1 (0) c1, .slice ao2 m' c2], .int .i64 0]) (by simp [results, Try.results39, go_sem, *]) rfl HE1.out
set_option maxRecDepth 100000 in
set_option maxHeartbeats 800000 in
theorem item_ok3 {w : World} {A : Ar} (hA : A.Is w) (i : Int) (hm : amE A.s A.a = 0) (hi1 : -(itE A.s A.a) ≤ i) (hi2 : i < itE A.s A.a) (hneg : ¬ i < 0) (hemp : A.sn = 0) (j m : Nat)
    (hj : (j : Int) = if i < 0 then i + itE A.s A.a else i) (hmm : (m : Int) = pr A.s.tail) :
    Calls Try.prog 39 #[A.v, .int .i64 i] w (MadeE w A.s.tail (itemA A.a j m) 0) := by
  obtain ⟨sa, sn, sc, aa, an, ac, s, a⟩ := A
  obtain ⟨h1, h2⟩ := hA
  simp only [Ar.v] at *
  first | subst hemp | (obtain ⟨rfl, rfl⟩ := hemp) | (obtain ⟨he1, he2⟩ := hemp)
  have hc1 := h1.cap
  have hc2 := h2.cap
  have hc3 := h1.top
  have hc4 := h2.top
  have hl1 := h1.len
  obtain ⟨W, HWW⟩ : ∃ W, Hid ((w.alloc (.cells #[.slice sa 0 sc, .slice aa an ac] 55)).alloc (.cells #[.slice none 0 0, .slice none 0 0] 55) = W) := ⟨_, rfl⟩
  have hw : Below w.heap.size w W := by rw [← HWW.out]; exact below_box2 _ _ _ _ _
  have hIs : Ar.Is ⟨sa, 0, sc, aa, an, ac, s, a⟩ W := ⟨h1.below hw (Nat.le_refl _), h2.below hw (Nat.le_refl _)⟩
  have M := Lib.hid (arrmay_any hIs)
  have T := Lib.hid (fun (w1 : World) (hb : Below W.heap.size W w1) => items_any (hIs.below hb (Nat.le_refl _)))
  simp only [Ar.v, hm] at M T
  have hbd := itE_bd hm
  have hn1 : 1 ≤ itE s a := by omega
  obtain ⟨m', e1, e2, e3⟩ := item_part hm hn1
  obtain rfl : m' = m := by rw [← hmm] at e2; omega
  obtain ⟨n, HN⟩ : ∃ n, Hid (itE s a = n) := ⟨_, rfl⟩
  rw [HN.out] at T hi1 hi2 hbd hj hn1 e1 e3
  rw [h2.len] at e1 e3
  obtain ⟨hbd1, hbd2⟩ := hbd
  have hj2 : (j : Int) < n := by split at hj <;> omega
  have hjm : j * m' + m' ≤ an := by
    have q1 : (j : Int) + 1 ≤ n := by omega
    have q2 : ((j : Int) + 1) * m' ≤ n * m' := Int.mul_le_mul_of_nonneg_right q1 (by omega)
    rw [← e1, Int.add_mul, Int.one_mul] at q2
    omega
  have han : (an : Int) ≤ 4096 := by
    obtain ⟨q1, q2⟩ := amE_zero hm
    obtain ⟨g1, g2, g3⟩ := mayE_zero q1
    have q3 := pr_le s g1 s.length
    rw [List.take_length] at q3
    have := h2.len
    omega
  obtain ⟨p, HP⟩ : ∃ p, Hid (j * m' = p) := ⟨_, rfl⟩
  have hmul : (i) * (m' : Int) = (p : Int) := by
    have : (i) = (j : Int) := by rw [hj]; split <;> first | rfl | omega
    rw [this, ← HP.out]; simp
  rw [HP.out] at hjm
  have hsz : W.heap.size = w.heap.size + 2 := by rw [← HWW.out]; simp
  have B0 : BoxA W w.heap.size (.slice sa 0 sc) (.slice aa an ac) := by
    rw [← HWW.out]
    exact ⟨by simp [go_sem], by simp [go_sem], by simp [go_sem], by simp [go_sem], by simp; omega⟩
  have B1 : BoxA W (w.heap.size + 1) (.slice none 0 0) (.slice none 0 0) := by
    rw [← HWW.out]
    exact ⟨by simp [go_sem], by simp [go_sem], by simp [go_sem], by simp [go_sem], by simp⟩
  have HW := Lib.hid hw
  have SZ := Lib.hid hsz
  have HB1 := Lib.hid B1
  have HB0 := Lib.hid B0
  have HJ := Lib.hid hj
  have HIS := Lib.hid hIs
  clear h1 h2 hw hm hsz B1 B0 hIs hmm e1 e2 hj hj2
  go_enter Try.func39, Try.ntmps39
  go_wp2_with fail
  rw [HWW.out]
  refine M.out.mono ?_; rintro e w1 ⟨rfl, hb⟩
  obtain ⟨j0, j1, j2, j3, j4⟩ := HB0.out.below hb HB0.out.lt
  have HB' := Lib.hid hb
  clear hb
  go_wp2_with fail
  refine (T.out w1 HB'.out).mono ?_; rintro e w' ⟨rfl, hb2⟩
  have hb : Below W.heap.size W w' := HB'.out.trans (hb2.mono HB'.out.size)
  clear j0 j1 j2 j3 j4
  obtain ⟨j0, j1, j2, j3, j4⟩ := HB0.out.below hb HB0.out.lt
  obtain ⟨k0, k1, k2, k3, k4⟩ := HB1.out.below hb HB1.out.lt
  have CA := Lib.hid (fun W1 (hB : Below w'.heap.size w' W1) => clone_any ((HIS.out.shp.below hb (Nat.le_refl _)).below hB (Nat.le_refl _)))
  have HK0 := Lib.hid (HB0.out.below hb HB0.out.lt)
  have HK1 := Lib.hid (HB1.out.below hb HB1.out.lt)
  have HI := Lib.hid (HIS.out.below hb (Nat.le_refl _))
  have HB : Below w.heap.size w w' := HW.out.trans (hb.mono (by have := SZ.out; omega))
  have HBB := Lib.hid HB
  have HSW : Hid (w.heap.size + 2 ≤ w'.heap.size) := by show _ ≤ _; have h1 := SZ.out; have h2 := hb.size; omega
  have HTL : Hid (s.tail = s) := by
    show _ = _
    first | rfl | (rw [List.eq_nil_of_length_eq_zero hl1]; rfl) | (rw [List.drop_one, List.take_of_length_le]; simp [hl1]) | (exact List.eq_nil_of_length_eq_zero (by simp [hl1]))
  clear HB hb hb2
  go_wp2_with fail
  rcases (show p = ac ∨ p < ac by omega) with hpc | hpc
  · obtain rfl : m' = 0 := by omega
    have hp0 : p = 0 := by rw [← HP.out]; simp
    obtain rfl : ac = 0 := by omega
    subst hp0
    have CB := Lib.hid (fun W1 (hB : Below w'.heap.size w' W1) => clone6_any (Ls.zero W1 aa (Nat.zero_le _ : 0 ≤ maxLen)))
    have z5 : IntKind.i64.wrap (0 : Int) = 0 := IntWalk.i64_in _ (by omega)
    have HIA : Hid (itemA a j 0 = []) := by show _ = _; simp [itemA]
    clear hmul hpc
    go_region_held3 (fun w'' => w''.cell? ⟨w.heap.size, 1, none⟩ = some (.slice aa an 0)) (go_keep)
      (first
        | (go_at_call 86; refine (CA.out _ ?_).mono ?_; (exact (Below.refl _ _).drew); rintro e w2 ⟨ao1, c1, rfl, hL1, hO1, hB0⟩; have hB1 : Below w'.heap.size w' w2 := ((Below.refl _ _).drew).trans hB0; have r1 := (hB1.cell (p := ⟨w.heap.size, 1, none⟩) HK0.out.lt).trans HK0.out.c1)
        | (go_at_call 87; refine (CB.out _ ?_).mono ?_; (exact hB1); rintro e w3 ⟨ao2, c2, rfl, hL2, hO2, hB2⟩; have r2 := ((HK0.out.below hB1 HK0.out.lt).below hB2 (Nat.lt_of_lt_of_le HK0.out.lt hB1.size)).c1; obtain ⟨q0, q1, q2, q3, q4⟩ := (HK1.out.below hB1 HK1.out.lt).below hB2 (Nat.lt_of_lt_of_le HK1.out.lt hB1.size)))
    have HE1 := Lib.hid (made_end HBB.out HSW.out hB1 hO1 hB2 hO2 hL1 hL2 0 (.slice ao1 (0) c1) (.slice ao2 0 c2) rfl HTL.out HIA.out)
    clear hB1 hO1 hB2 hO2 hL1 hL2 hB0
    go_wp2
    exact bodyPost_ret (v := .tuple #[.agg #[.slice ao1 (0) c1, .slice ao2 0 c2], .int .i64 0]) (by simp [results, Try.results39, go_sem, *]) rfl HE1.out
  · have CB := Lib.hid (fun W1 (hB : Below w'.heap.size w' W1) => clone6_any ((HI.out.ats.cutA p m' hjm).below hB (Nat.le_refl _)))
    have HIA : Hid (itemA a j m' = (a.drop p).take m') := by show _ = _; rw [← HP.out]; rfl
    have z0 : ¬ ac = p := by omega
    have z1 : (0 : Int) ≤ p := by omega
    have z2 : (p : Int) ≤ p + m' := by omega
    have z3 : (p : Int) + m' ≤ ac := by omega
    have z4 : IntKind.i64.wrap ((p : Int) + m') = p + m' := IntWalk.i64_in _ (by omega)
    have z5 : ((p : Int) + m').toNat = p + m' := by omega
    have z6 : IntKind.i64.wrap ((i) * m') = p := by rw [hmul]; exact IntWalk.i64_in _ (by omega)
    have z7 : (p : Int) < ac := by omega
    have z8 : ¬ ac - p = 0 := by omega
    have z9 : p + m' - p = m' := by omega
    have z10 : IntKind.i64.wrap (p : Int) = p := IntWalk.i64_in _ (by omega)
    clear hmul
    go_region_held3 (fun w'' => w''.cell? ⟨w.heap.size, 1, none⟩ = some (.slice aa an ac)) (go_keep)
      (first
        | (go_at_call 86; refine (CA.out _ ?_).mono ?_; (exact (Below.refl _ _).drew); rintro e w2 ⟨ao1, c1, rfl, hL1, hO1, hB0⟩; have hB1 : Below w'.heap.size w' w2 := ((Below.refl _ _).drew).trans hB0; have r1 := (hB1.cell (p := ⟨w.heap.size, 1, none⟩) HK0.out.lt).trans HK0.out.c1)
        | (go_at_call 87; refine (CB.out _ ?_).mono ?_; (exact hB1); rintro e w3 ⟨ao2, c2, rfl, hL2, hO2, hB2⟩; have r2 := ((HK0.out.below hB1 HK0.out.lt).below hB2 (Nat.lt_of_lt_of_le HK0.out.lt hB1.size)).c1; obtain ⟨q0, q1, q2, q3, q4⟩ := (HK1.out.below hB1 HK1.out.lt).below hB2 (Nat.lt_of_lt_of_le HK1.out.lt hB1.size)))
    have HE1 := Lib.hid (made_end HBB.out HSW.out hB1 hO1 hB2 hO2 hL1 hL2 0 (.slice ao1 (0) c1) (.slice ao2 m' c2) rfl HTL.out HIA.out)
    clear hB1 hO1 hB2 hO2 hL1 hL2 hB0
    go_wp2
    exact bodyPost_ret (v := .tuple #[.agg #[.slice ao1 (0) c1, .slice ao2 m' c2], .int .i64 0]) (by simp [results, Try.results39, go_sem, *]) rfl HE1.out
set_option maxRecDepth 100000 in
set_option maxHeartbeats 800000 in
theorem item_ok4 {w : World} {A : Ar} (hA : A.Is w) (i : Int) (hm : amE A.s A.a = 0) (hi1 : -(itE A.s A.a) ≤ i) (hi2 : i < itE A.s A.a) (hneg : ¬ i < 0) (hemp : 1 < A.sc ∧ 0 < A.sn) (j m : Nat)
    (hj : (j : Int) = if i < 0 then i + itE A.s A.a else i) (hmm : (m : Int) = pr A.s.tail) :
    Calls Try.prog 39 #[A.v, .int .i64 i] w (MadeE w A.s.tail (itemA A.a j m) 0) := by
  obtain ⟨sa, sn, sc, aa, an, ac, s, a⟩ := A
  obtain ⟨h1, h2⟩ := hA
  simp only [Ar.v] at *
  first | subst hemp | (obtain ⟨rfl, rfl⟩ := hemp) | (obtain ⟨he1, he2⟩ := hemp)
  have hc1 := h1.cap
  have hc2 := h2.cap
  have hc3 := h1.top
  have hc4 := h2.top
  have hl1 := h1.len
  obtain ⟨W, HWW⟩ : ∃ W, Hid ((w.alloc (.cells #[.slice sa sn sc, .slice aa an ac] 55)).alloc (.cells #[.slice none 0 0, .slice none 0 0] 55) = W) := ⟨_, rfl⟩
  have hw : Below w.heap.size w W := by rw [← HWW.out]; exact below_box2 _ _ _ _ _
  have hIs : Ar.Is ⟨sa, sn, sc, aa, an, ac, s, a⟩ W := ⟨h1.below hw (Nat.le_refl _), h2.below hw (Nat.le_refl _)⟩
  have M := Lib.hid (arrmay_any hIs)
  have T := Lib.hid (fun (w1 : World) (hb : Below W.heap.size W w1) => items_any (hIs.below hb (Nat.le_refl _)))
  simp only [Ar.v, hm] at M T
  have hbd := itE_bd hm
  have hn1 : 1 ≤ itE s a := by omega
  obtain ⟨m', e1, e2, e3⟩ := item_part hm hn1
  obtain rfl : m' = m := by rw [← hmm] at e2; omega
  obtain ⟨n, HN⟩ : ∃ n, Hid (itE s a = n) := ⟨_, rfl⟩
  rw [HN.out] at T hi1 hi2 hbd hj hn1 e1 e3
  rw [h2.len] at e1 e3
  obtain ⟨hbd1, hbd2⟩ := hbd
  have hj2 : (j : Int) < n := by split at hj <;> omega
  have hjm : j * m' + m' ≤ an := by
    have q1 : (j : Int) + 1 ≤ n := by omega
    have q2 : ((j : Int) + 1) * m' ≤ n * m' := Int.mul_le_mul_of_nonneg_right q1 (by omega)
    rw [← e1, Int.add_mul, Int.one_mul] at q2
    omega
  have han : (an : Int) ≤ 4096 := by
    obtain ⟨q1, q2⟩ := amE_zero hm
    obtain ⟨g1, g2, g3⟩ := mayE_zero q1
    have q3 := pr_le s g1 s.length
    rw [List.take_length] at q3
    have := h2.len
    omega
  obtain ⟨p, HP⟩ : ∃ p, Hid (j * m' = p) := ⟨_, rfl⟩
  have hmul : (i) * (m' : Int) = (p : Int) := by
    have : (i) = (j : Int) := by rw [hj]; split <;> first | rfl | omega
    rw [this, ← HP.out]; simp
  rw [HP.out] at hjm
  have hsz : W.heap.size = w.heap.size + 2 := by rw [← HWW.out]; simp
  have B0 : BoxA W w.heap.size (.slice sa sn sc) (.slice aa an ac) := by
    rw [← HWW.out]
    exact ⟨by simp [go_sem], by simp [go_sem], by simp [go_sem], by simp [go_sem], by simp; omega⟩
  have B1 : BoxA W (w.heap.size + 1) (.slice none 0 0) (.slice none 0 0) := by
    rw [← HWW.out]
    exact ⟨by simp [go_sem], by simp [go_sem], by simp [go_sem], by simp [go_sem], by simp⟩
  have HW := Lib.hid hw
  have SZ := Lib.hid hsz
  have HB1 := Lib.hid B1
  have HB0 := Lib.hid B0
  have HJ := Lib.hid hj
  have HIS := Lib.hid hIs
  clear h1 h2 hw hm hsz B1 B0 hIs hmm e1 e2 hj hj2
  go_enter Try.func39, Try.ntmps39
  go_wp2_with fail
  rw [HWW.out]
  refine M.out.mono ?_; rintro e w1 ⟨rfl, hb⟩
  obtain ⟨j0, j1, j2, j3, j4⟩ := HB0.out.below hb HB0.out.lt
  have HB' := Lib.hid hb
  clear hb
  go_wp2_with fail
  refine (T.out w1 HB'.out).mono ?_; rintro e w' ⟨rfl, hb2⟩
  have hb : Below W.heap.size W w' := HB'.out.trans (hb2.mono HB'.out.size)
  clear j0 j1 j2 j3 j4
  obtain ⟨j0, j1, j2, j3, j4⟩ := HB0.out.below hb HB0.out.lt
  obtain ⟨k0, k1, k2, k3, k4⟩ := HB1.out.below hb HB1.out.lt
  have CA := Lib.hid (fun W1 (hB : Below w'.heap.size w' W1) => clone_any (((HIS.out.shp.below hb (Nat.le_refl _)).below hB (Nat.le_refl _)).cut 1 (sn - 1) (show 1 + (sn - 1) ≤ sn by omega)))
  have HK0 := Lib.hid (HB0.out.below hb HB0.out.lt)
  have HK1 := Lib.hid (HB1.out.below hb HB1.out.lt)
  have HI := Lib.hid (HIS.out.below hb (Nat.le_refl _))
  have HB : Below w.heap.size w w' := HW.out.trans (hb.mono (by have := SZ.out; omega))
  have HBB := Lib.hid HB
  have HSW : Hid (w.heap.size + 2 ≤ w'.heap.size) := by show _ ≤ _; have h1 := SZ.out; have h2 := hb.size; omega
  have HTL : Hid (s.tail = (s.drop 1).take (sn - 1)) := by
    show _ = _
    first | rfl | (rw [List.eq_nil_of_length_eq_zero hl1]; rfl) | (rw [List.drop_one, List.take_of_length_le]; simp [hl1]) | (exact List.eq_nil_of_length_eq_zero (by simp [hl1]))
  clear HB hb hb2
  go_wp2_with fail
  rcases (show p = ac ∨ p < ac by omega) with hpc | hpc
  · obtain rfl : m' = 0 := by omega
    have hp0 : p = 0 := by rw [← HP.out]; simp
    obtain rfl : ac = 0 := by omega
    subst hp0
    have CB := Lib.hid (fun W1 (hB : Below w'.heap.size w' W1) => clone6_any (Ls.zero W1 aa (Nat.zero_le _ : 0 ≤ maxLen)))
    have z5 : IntKind.i64.wrap (0 : Int) = 0 := IntWalk.i64_in _ (by omega)
    have HIA : Hid (itemA a j 0 = []) := by show _ = _; simp [itemA]
    clear hmul hpc
    go_region_held3 (fun w'' => w''.cell? ⟨w.heap.size, 1, none⟩ = some (.slice aa an 0)) (go_keep)
      (first
        | (go_at_call 86; refine (CA.out _ ?_).mono ?_; (exact (Below.refl _ _).drew); rintro e w2 ⟨ao1, c1, rfl, hL1, hO1, hB0⟩; have hB1 : Below w'.heap.size w' w2 := ((Below.refl _ _).drew).trans hB0; have r1 := (hB1.cell (p := ⟨w.heap.size, 1, none⟩) HK0.out.lt).trans HK0.out.c1)
        | (go_at_call 87; refine (CB.out _ ?_).mono ?_; (exact hB1); rintro e w3 ⟨ao2, c2, rfl, hL2, hO2, hB2⟩; have r2 := ((HK0.out.below hB1 HK0.out.lt).below hB2 (Nat.lt_of_lt_of_le HK0.out.lt hB1.size)).c1; obtain ⟨q0, q1, q2, q3, q4⟩ := (HK1.out.below hB1 HK1.out.lt).below hB2 (Nat.lt_of_lt_of_le HK1.out.lt hB1.size)))
    have HE1 := Lib.hid (made_end HBB.out HSW.out hB1 hO1 hB2 hO2 hL1 hL2 0 (.slice ao1 (sn - 1) c1) (.slice ao2 0 c2) rfl HTL.out HIA.out)
    clear hB1 hO1 hB2 hO2 hL1 hL2 hB0
    go_wp2
    exact bodyPost_ret (v := .tuple #[.agg #[.slice ao1 (sn - 1) c1, .slice ao2 0 c2], .int .i64 0]) (by simp [results, Try.results39, go_sem, *]) rfl HE1.out
  · have CB := Lib.hid (fun W1 (hB : Below w'.heap.size w' W1) => clone6_any ((HI.out.ats.cutA p m' hjm).below hB (Nat.le_refl _)))
    have HIA : Hid (itemA a j m' = (a.drop p).take m') := by show _ = _; rw [← HP.out]; rfl
    have z0 : ¬ ac = p := by omega
    have z1 : (0 : Int) ≤ p := by omega
    have z2 : (p : Int) ≤ p + m' := by omega
    have z3 : (p : Int) + m' ≤ ac := by omega
    have z4 : IntKind.i64.wrap ((p : Int) + m') = p + m' := IntWalk.i64_in _ (by omega)
    have z5 : ((p : Int) + m').toNat = p + m' := by omega
    have z6 : IntKind.i64.wrap ((i) * m') = p := by rw [hmul]; exact IntWalk.i64_in _ (by omega)
    have z7 : (p : Int) < ac := by omega
    have z8 : ¬ ac - p = 0 := by omega
    have z9 : p + m' - p = m' := by omega
    have z10 : IntKind.i64.wrap (p : Int) = p := IntWalk.i64_in _ (by omega)
    clear hmul
    go_region_held3 (fun w'' => w''.cell? ⟨w.heap.size, 1, none⟩ = some (.slice aa an ac)) (go_keep)
      (first
        | (go_at_call 86; refine (CA.out _ ?_).mono ?_; (exact (Below.refl _ _).drew); rintro e w2 ⟨ao1, c1, rfl, hL1, hO1, hB0⟩; have hB1 : Below w'.heap.size w' w2 := ((Below.refl _ _).drew).trans hB0; have r1 := (hB1.cell (p := ⟨w.heap.size, 1, none⟩) HK0.out.lt).trans HK0.out.c1)
        | (go_at_call 87; refine (CB.out _ ?_).mono ?_; (exact hB1); rintro e w3 ⟨ao2, c2, rfl, hL2, hO2, hB2⟩; have r2 := ((HK0.out.below hB1 HK0.out.lt).below hB2 (Nat.lt_of_lt_of_le HK0.out.lt hB1.size)).c1; obtain ⟨q0, q1, q2, q3, q4⟩ := (HK1.out.below hB1 HK1.out.lt).below hB2 (Nat.lt_of_lt_of_le HK1.out.lt hB1.size)))
    have HE1 := Lib.hid (made_end HBB.out HSW.out hB1 hO1 hB2 hO2 hL1 hL2 0 (.slice ao1 (sn - 1) c1) (.slice ao2 m' c2) rfl HTL.out HIA.out)
    clear hB1 hO1 hB2 hO2 hL1 hL2 hB0
    go_wp2
    exact bodyPost_ret (v := .tuple #[.agg #[.slice ao1 (sn - 1) c1, .slice ao2 m' c2], .int .i64 0]) (by simp [results, Try.results39, go_sem, *]) rfl HE1.out
set_option maxRecDepth 100000 in
set_option maxHeartbeats 800000 in
theorem item_ok5 {w : World} {A : Ar} (hA : A.Is w) (i : Int) (hm : amE A.s A.a = 0) (hi1 : -(itE A.s A.a) ≤ i) (hi2 : i < itE A.s A.a) (hneg : ¬ i < 0) (hemp : A.sc = 1 ∧ A.sn = 1) (j m : Nat)
    (hj : (j : Int) = if i < 0 then i + itE A.s A.a else i) (hmm : (m : Int) = pr A.s.tail) :
    Calls Try.prog 39 #[A.v, .int .i64 i] w (MadeE w A.s.tail (itemA A.a j m) 0) := by
  obtain ⟨sa, sn, sc, aa, an, ac, s, a⟩ := A
  obtain ⟨h1, h2⟩ := hA
  simp only [Ar.v] at *
  first | subst hemp | (obtain ⟨rfl, rfl⟩ := hemp) | (obtain ⟨he1, he2⟩ := hemp)
  have hc1 := h1.cap
  have hc2 := h2.cap
  have hc3 := h1.top
  have hc4 := h2.top
  have hl1 := h1.len
  obtain ⟨W, HWW⟩ : ∃ W, Hid ((w.alloc (.cells #[.slice sa 1 1, .slice aa an ac] 55)).alloc (.cells #[.slice none 0 0, .slice none 0 0] 55) = W) := ⟨_, rfl⟩
  have hw : Below w.heap.size w W := by rw [← HWW.out]; exact below_box2 _ _ _ _ _
  have hIs : Ar.Is ⟨sa, 1, 1, aa, an, ac, s, a⟩ W := ⟨h1.below hw (Nat.le_refl _), h2.below hw (Nat.le_refl _)⟩
  have M := Lib.hid (arrmay_any hIs)
  have T := Lib.hid (fun (w1 : World) (hb : Below W.heap.size W w1) => items_any (hIs.below hb (Nat.le_refl _)))
  simp only [Ar.v, hm] at M T
  have hbd := itE_bd hm
  have hn1 : 1 ≤ itE s a := by omega
  obtain ⟨m', e1, e2, e3⟩ := item_part hm hn1
  obtain rfl : m' = m := by rw [← hmm] at e2; omega
  obtain ⟨n, HN⟩ : ∃ n, Hid (itE s a = n) := ⟨_, rfl⟩
  rw [HN.out] at T hi1 hi2 hbd hj hn1 e1 e3
  rw [h2.len] at e1 e3
  obtain ⟨hbd1, hbd2⟩ := hbd
  have hj2 : (j : Int) < n := by split at hj <;> omega
  have hjm : j * m' + m' ≤ an := by
    have q1 : (j : Int) + 1 ≤ n := by omega
    have q2 : ((j : Int) + 1) * m' ≤ n * m' := Int.mul_le_mul_of_nonneg_right q1 (by omega)
    rw [← e1, Int.add_mul, Int.one_mul] at q2
    omega
  have han : (an : Int) ≤ 4096 := by
    obtain ⟨q1, q2⟩ := amE_zero hm
    obtain ⟨g1, g2, g3⟩ := mayE_zero q1
    have q3 := pr_le s g1 s.length
    rw [List.take_length] at q3
    have := h2.len
    omega
  obtain ⟨p, HP⟩ : ∃ p, Hid (j * m' = p) := ⟨_, rfl⟩
  have hmul : (i) * (m' : Int) = (p : Int) := by
    have : (i) = (j : Int) := by rw [hj]; split <;> first | rfl | omega
    rw [this, ← HP.out]; simp
  rw [HP.out] at hjm
  have hsz : W.heap.size = w.heap.size + 2 := by rw [← HWW.out]; simp
  have B0 : BoxA W w.heap.size (.slice sa 1 1) (.slice aa an ac) := by
    rw [← HWW.out]
    exact ⟨by simp [go_sem], by simp [go_sem], by simp [go_sem], by simp [go_sem], by simp; omega⟩
  have B1 : BoxA W (w.heap.size + 1) (.slice none 0 0) (.slice none 0 0) := by
    rw [← HWW.out]
    exact ⟨by simp [go_sem], by simp [go_sem], by simp [go_sem], by simp [go_sem], by simp⟩
  have HW := Lib.hid hw
  have SZ := Lib.hid hsz
  have HB1 := Lib.hid B1
  have HB0 := Lib.hid B0
  have HJ := Lib.hid hj
  have HIS := Lib.hid hIs
  clear h1 h2 hw hm hsz B1 B0 hIs hmm e1 e2 hj hj2
  go_enter Try.func39, Try.ntmps39
  go_wp2_with fail
  rw [HWW.out]
  refine M.out.mono ?_; rintro e w1 ⟨rfl, hb⟩
  obtain ⟨j0, j1, j2, j3, j4⟩ := HB0.out.below hb HB0.out.lt
  have HB' := Lib.hid hb
  clear hb
  go_wp2_with fail
  refine (T.out w1 HB'.out).mono ?_; rintro e w' ⟨rfl, hb2⟩
  have hb : Below W.heap.size W w' := HB'.out.trans (hb2.mono HB'.out.size)
  clear j0 j1 j2 j3 j4
  obtain ⟨j0, j1, j2, j3, j4⟩ := HB0.out.below hb HB0.out.lt
  obtain ⟨k0, k1, k2, k3, k4⟩ := HB1.out.below hb HB1.out.lt
  have CA := Lib.hid (fun W1 (hB : Below w'.heap.size w' W1) => clone_any (Ls.zero W1 sa (Nat.zero_le _ : 0 ≤ maxLen)))
  have HK0 := Lib.hid (HB0.out.below hb HB0.out.lt)
  have HK1 := Lib.hid (HB1.out.below hb HB1.out.lt)
  have HI := Lib.hid (HIS.out.below hb (Nat.le_refl _))
  have HB : Below w.heap.size w w' := HW.out.trans (hb.mono (by have := SZ.out; omega))
  have HBB := Lib.hid HB
  have HSW : Hid (w.heap.size + 2 ≤ w'.heap.size) := by show _ ≤ _; have h1 := SZ.out; have h2 := hb.size; omega
  have HTL : Hid (s.tail = ([] : List Int)) := by
    show _ = _
    first | rfl | (rw [List.eq_nil_of_length_eq_zero hl1]; rfl) | (rw [List.drop_one, List.take_of_length_le]; simp [hl1]) | (exact List.eq_nil_of_length_eq_zero (by simp [hl1]))
  clear HB hb hb2
  go_wp2_with fail
  rcases (show p = ac ∨ p < ac by omega) with hpc | hpc
  · obtain rfl : m' = 0 := by omega
    have hp0 : p = 0 := by rw [← HP.out]; simp
    obtain rfl : ac = 0 := by omega
    subst hp0
    have CB := Lib.hid (fun W1 (hB : Below w'.heap.size w' W1) => clone6_any (Ls.zero W1 aa (Nat.zero_le _ : 0 ≤ maxLen)))
    have z5 : IntKind.i64.wrap (0 : Int) = 0 := IntWalk.i64_in _ (by omega)
    have HIA : Hid (itemA a j 0 = []) := by show _ = _; simp [itemA]
    clear hmul hpc
    go_region_held3 (fun w'' => w''.cell? ⟨w.heap.size, 1, none⟩ = some (.slice aa an 0)) (go_keep)
      (first
        | (go_at_call 86; refine (CA.out _ ?_).mono ?_; (exact (Below.refl _ _).drew); rintro e w2 ⟨ao1, c1, rfl, hL1, hO1, hB0⟩; have hB1 : Below w'.heap.size w' w2 := ((Below.refl _ _).drew).trans hB0; have r1 := (hB1.cell (p := ⟨w.heap.size, 1, none⟩) HK0.out.lt).trans HK0.out.c1)
        | (go_at_call 87; refine (CB.out _ ?_).mono ?_; (exact hB1); rintro e w3 ⟨ao2, c2, rfl, hL2, hO2, hB2⟩; have r2 := ((HK0.out.below hB1 HK0.out.lt).below hB2 (Nat.lt_of_lt_of_le HK0.out.lt hB1.size)).c1; obtain ⟨q0, q1, q2, q3, q4⟩ := (HK1.out.below hB1 HK1.out.lt).below hB2 (Nat.lt_of_lt_of_le HK1.out.lt hB1.size)))
    have HE1 := Lib.hid (made_end HBB.out HSW.out hB1 hO1 hB2 hO2 hL1 hL2 0 (.slice ao1 (0) c1) (.slice ao2 0 c2) rfl HTL.out HIA.out)
    clear hB1 hO1 hB2 hO2 hL1 hL2 hB0
    go_wp2
    exact bodyPost_ret (v := .tuple #[.agg #[.slice ao1 (0) c1, .slice ao2 0 c2], .int .i64 0]) (by simp [results, Try.results39, go_sem, *]) rfl HE1.out
  · have CB := Lib.hid (fun W1 (hB : Below w'.heap.size w' W1) => clone6_any ((HI.out.ats.cutA p m' hjm).below hB (Nat.le_refl _)))
    have HIA : Hid (itemA a j m' = (a.drop p).take m') := by show _ = _; rw [← HP.out]; rfl
    have z0 : ¬ ac = p := by omega
    have z1 : (0 : Int) ≤ p := by omega
    have z2 : (p : Int) ≤ p + m' := by omega
    have z3 : (p : Int) + m' ≤ ac := by omega
    have z4 : IntKind.i64.wrap ((p : Int) + m') = p + m' := IntWalk.i64_in _ (by omega)
    have z5 : ((p : Int) + m').toNat = p + m' := by omega
    have z6 : IntKind.i64.wrap ((i) * m') = p := by rw [hmul]; exact IntWalk.i64_in _ (by omega)
    have z7 : (p : Int) < ac := by omega
    have z8 : ¬ ac - p = 0 := by omega
    have z9 : p + m' - p = m' := by omega
    have z10 : IntKind.i64.wrap (p : Int) = p := IntWalk.i64_in _ (by omega)
    clear hmul
    go_region_held3 (fun w'' => w''.cell? ⟨w.heap.size, 1, none⟩ = some (.slice aa an ac)) (go_keep)
      (first
        | (go_at_call 86; refine (CA.out _ ?_).mono ?_; (exact (Below.refl _ _).drew); rintro e w2 ⟨ao1, c1, rfl, hL1, hO1, hB0⟩; have hB1 : Below w'.heap.size w' w2 := ((Below.refl _ _).drew).trans hB0; have r1 := (hB1.cell (p := ⟨w.heap.size, 1, none⟩) HK0.out.lt).trans HK0.out.c1)
        | (go_at_call 87; refine (CB.out _ ?_).mono ?_; (exact hB1); rintro e w3 ⟨ao2, c2, rfl, hL2, hO2, hB2⟩; have r2 := ((HK0.out.below hB1 HK0.out.lt).below hB2 (Nat.lt_of_lt_of_le HK0.out.lt hB1.size)).c1; obtain ⟨q0, q1, q2, q3, q4⟩ := (HK1.out.below hB1 HK1.out.lt).below hB2 (Nat.lt_of_lt_of_le HK1.out.lt hB1.size)))
    have HE1 := Lib.hid (made_end HBB.out HSW.out hB1 hO1 hB2 hO2 hL1 hL2 0 (.slice ao1 (0) c1) (.slice ao2 m' c2) rfl HTL.out HIA.out)
    clear hB1 hO1 hB2 hO2 hL1 hL2 hB0
    go_wp2
    exact bodyPost_ret (v := .tuple #[.agg #[.slice ao1 (0) c1, .slice ao2 m' c2], .int .i64 0]) (by simp [results, Try.results39, go_sem, *]) rfl HE1.out
end Go.Proofs.Ytdedbfbkakofgaa

namespace Go.Proofs.Ytdedbfbkakofgaa
open Go.RowKit Go.Lib
set_option linter.unusedVariables false
set_option linter.unusedSimpArgs false
attribute [local go_sem] alloc_drewN setCell_drewN

/-- The place of an item, counted from the front. -/
def itJ (i n : Int) : Nat := (if i < 0 then i + n else i).toNat
theorem item_any {w : World} {A : Ar} (hA : A.Is w) (i : Int) (hm : amE A.s A.a = 0) (hi1 : -(itE A.s A.a) ≤ i) (hi2 : i < itE A.s A.a) :
    Calls Try.prog 39 #[A.v, .int .i64 i] w (MadeE w A.s.tail (itemA A.a (itJ i (itE A.s A.a)) (pr A.s.tail).toNat) 0) := by
  have hn1 : 1 ≤ itE A.s A.a := by omega
  obtain ⟨m, e1, e2, e3⟩ := item_part hm hn1
  have hj : ((itJ i (itE A.s A.a) : Nat) : Int) = if i < 0 then i + itE A.s A.a else i := by
    unfold itJ; split <;> omega
  have hmm : (((pr A.s.tail).toNat : Nat) : Int) = pr A.s.tail := by omega
  have hc := hA.shp.cap
  by_cases hneg : i < 0
  · by_cases h0 : A.sn = 0
    · exact item_ok0 hA i hm hi1 hi2 hneg h0 _ _ hj hmm
    · by_cases h1 : 1 < A.sc
      · exact item_ok1 hA i hm hi1 hi2 hneg ⟨h1, by omega⟩ _ _ hj hmm
      · exact item_ok2 hA i hm hi1 hi2 hneg ⟨by omega, by omega⟩ _ _ hj hmm
  · by_cases h0 : A.sn = 0
    · exact item_ok3 hA i hm hi1 hi2 hneg h0 _ _ hj hmm
    · by_cases h1 : 1 < A.sc
      · exact item_ok4 hA i hm hi1 hi2 hneg ⟨h1, by omega⟩ _ _ hj hmm
      · exact item_ok5 hA i hm hi1 hi2 hneg ⟨by omega, by omega⟩ _ _ hj hmm
theorem made_mk {w w' : World} {ao1 ao2 : Option Addr} {n1 c1 n2 c2 : Nat} {s a : List Int} (err : Int) (hB : Below w.heap.size w w')
    (O1 : w'.ownsRow w.heap.size 3 1 (.slice ao1 n1 c1) n1 (s.map (Value.int .i64))) (O2 : w'.ownsRow w.heap.size 2 1 (.slice ao2 n2 c2) n2 (a.map (Value.int .i64)))
    (h2 : ∀ g, (Value.slice ao1 n1 c1).ownBlock = some g → (Value.slice ao2 n2 c2).ownBlock ≠ some g)
    (b1 : n1 * 8 ≤ 140737488351232) (b2 : n2 * 8 ≤ 140737488351232) (r1 : ∀ i, -9223372036854775808 ≤ s.getD i 0 ∧ s.getD i 0 ≤ 9223372036854775807) (r2 : ∀ i, -9223372036854775808 ≤ a.getD i 0 ∧ a.getD i 0 ≤ 9223372036854775807) :
    MadeE w s a err (.returned (.tuple #[.agg #[.slice ao1 n1 c1, .slice ao2 n2 c2], .int .i64 err])) w' :=
  ⟨⟨ao1, n1, c1, ao2, n2, c2, s, a⟩, rfl, ⟨ls_of_own O1 b1 r1, ls_of_own O2 b2 r2⟩, rfl, rfl, ⟨O1, O2, h2⟩, hB⟩
theorem rng_one {n : Int} (h : -9223372036854775808 ≤ n ∧ n ≤ 9223372036854775807) : ∀ i, -9223372036854775808 ≤ [n].getD i 0 ∧ [n].getD i 0 ≤ 9223372036854775807 := by
  intro i; cases i with
  | zero => exact h
  | succ k => simp [List.getD]
/-- The call hands back an array of its own. -/
def MadeA (w : World) (s a : List Int) (e : Ending) (w' : World) : Prop :=
  ∃ B : Ar, e = .returned B.v ∧ B.Is w' ∧ B.s = s ∧ B.a = a ∧ B.Own w' w.heap.size ∧ Below w.heap.size w w'
set_option maxHeartbeats 400000 in
theorem scalar_any (n : Int) (w : World) (hn : -9223372036854775808 ≤ n ∧ n ≤ 9223372036854775807) :
    Calls Try.prog 40 #[.int .i64 n] w (MadeA w [] [n]) := by
  have HE : Hid (MadeA w [] [n] (.returned (.agg #[.slice none 0 0, .slice (some ⟨w.heap.size + 1, 0, none⟩) 1 1])) ((w.alloc (.cells #[.slice none 0 0, .slice (some ⟨w.heap.size + 1, 0, none⟩) 1 1] 55)).alloc (.cells #[.int .i64 n] 2))) := by
    have h := World.ownsRow_lit (base := w.heap.size) (e := 2) (size := 1) (w.alloc (.cells #[.slice none 0 0, .slice (some ⟨w.heap.size + 1, 0, none⟩) 1 1] 55)) #[.int .i64 n] 1 (by simp) (by simp [maxLen]) rfl
    have h' : World.ownsRow ((w.alloc (.cells #[.slice none 0 0, .slice (some ⟨w.heap.size + 1, 0, none⟩) 1 1] 55)).alloc (.cells #[.int .i64 n] 2)) w.heap.size 2 1 (.slice (some ⟨w.heap.size + 1, 0, none⟩) 1 1) 1 ([n].map (Value.int .i64)) := by simpa using h
    exact ⟨⟨none, 0, 0, some ⟨w.heap.size + 1, 0, none⟩, 1, 1, [], [n]⟩, rfl, ⟨Ls.zero _ _ (Nat.zero_le _), ls_of_own h' (show 1 * 8 ≤ 140737488351232 by omega) (rng_one hn)⟩, rfl, rfl, ⟨World.ownsRow_nil _ _ _ _, h', fun g h => by simp [Value.ownBlock] at h⟩, below_box2 _ _ _ _ _⟩
  clear hn
  go_enter Try.func40, Try.ntmps40
  go_wp2
  exact bodyPost_ret (v := .agg #[.slice none 0 0, .slice (some ⟨w.heap.size + 1, 0, none⟩) 1 1]) (by simp [results, Try.results40, go_sem, *]) rfl HE.out
set_option maxHeartbeats 400000 in
theorem list_big {w : World} {ao : Option Addr} {n c : Nat} {zs : List Int} (h : Ls w ao n c zs) (hb : 4096 < n) :
    Calls Try.prog 62 #[.slice ao n c] w (MadeE w [] [] 17) := by
  have hb' : (4096 : Int) < n := by omega
  have g1 := h.big
  clear h hb
  go_enter Try.func62, Try.ntmps62
  go_wp2
  exact bodyPost_ret (v := .tuple #[.agg #[.slice none 0 0, .slice none 0 0], .int .i64 17]) (by simp [results, Try.results62, go_sem, *]) rfl ⟨⟨none, 0, 0, none, 0, 0, [], []⟩, rfl, Ar.is_nil _, rfl, rfl, Ar.own_nil _ _, (Below.refl _ _).alloc (Nat.le_refl _) _⟩
set_option maxHeartbeats 800000 in
theorem list_ok {w : World} {ao : Option Addr} {n c : Nat} {zs : List Int} (h : Ls w ao n c zs) (hb : n ≤ 4096) :
    Calls Try.prog 62 #[.slice ao n c] w (MadeE w [(n : Int)] zs 0) := by
  have hb' : ¬ (4096 : Int) < n := by omega
  have hb2 : (n : Int) ≤ 4096 := by omega
  obtain ⟨W, HWW⟩ : ∃ W, Hid ((w.alloc (.cells #[.slice none 0 0, .slice none 0 0] 55)).alloc (.cells #[.int .i64 n] 3) = W) := ⟨_, rfl⟩
  have hw : Below w.heap.size w W := by rw [← HWW.out]; exact below_box2 _ _ _ _ _
  have hsz : W.heap.size = w.heap.size + 2 := by rw [← HWW.out]; simp
  have hO : W.ownsRow (w.heap.size + 1) 3 1 (.slice (some ⟨w.heap.size + 1, 0, none⟩) 1 1) 1 ([(n : Int)].map (Value.int .i64)) := by
    rw [← HWW.out]
    have h := World.ownsRow_lit (base := (w.alloc (.cells #[.slice none 0 0, .slice none 0 0] 55)).heap.size) (e := 3) (size := 1) (w.alloc (.cells #[.slice none 0 0, .slice none 0 0] 55)) #[.int .i64 n] 1 (Nat.le_refl _) (by simp [maxLen]) rfl
    simpa using h
  have B0 : BoxA W w.heap.size (.slice none 0 0) (.slice none 0 0) := by
    rw [← HWW.out]
    exact ⟨by simp [go_sem], by simp [go_sem], by simp [go_sem], by simp [go_sem], by simp; omega⟩
  have C := Lib.hid (clone6_any (h.below hw (Nat.le_refl _)))
  have HO := Lib.hid hO
  have HW := Lib.hid hw
  have SZ := Lib.hid hsz
  have HB0 := Lib.hid B0
  clear h hw hsz hO B0 hb
  go_enter Try.func62, Try.ntmps62
  go_wp2_with fail
  rw [HWW.out]
  refine C.out.mono ?_; rintro e w2 ⟨ao2, c2, rfl, hL2, hO2, hB2⟩
  obtain ⟨k0, k1, k2, k3, k4⟩ := HB0.out.below hB2 HB0.out.lt
  have HE : Hid (∀ u v, MadeE w [(n : Int)] zs 0 (.returned (.tuple #[.agg #[.slice (some ⟨w.heap.size + 1, 0, none⟩) 1 1, .slice ao2 n c2], .int .i64 0])) ((w2.setCell ⟨w.heap.size, 0, none⟩ u).setCell ⟨w.heap.size, 1, none⟩ v)) := by
    intro u v
    have hsz := SZ.out
    have O1 := ownsRow_setCell_below (ownsRow_setCell_below (own_below HO.out hB2 (Nat.le_refl _)) (a := ⟨w.heap.size, 0, none⟩) (by simp) u) (a := ⟨w.heap.size, 1, none⟩) (by simp) v
    have O2 := ownsRow_setCell_below (ownsRow_setCell_below hO2 (a := ⟨w.heap.size, 0, none⟩) (by show w.heap.size < _; omega) u) (a := ⟨w.heap.size, 1, none⟩) (by show w.heap.size < _; omega) v
    refine made_mk 0 (((HW.out.trans (hB2.mono (by omega))).setCell (by simp) _).setCell (by simp) _) (own_mono O1 (by omega)) (own_mono O2 (by omega)) ?_ (by omega) hL2.big (rng_one (by omega)) hL2.rng
    intro g h1 h2
    have q1 := own_block HO.out h1
    have q2 := own_block hO2 h2
    omega
  clear hL2 hO2 hB2
  go_wp2
  exact bodyPost_ret (v := .tuple #[.agg #[.slice (some ⟨w.heap.size + 1, 0, none⟩) 1 1, .slice ao2 n c2], .int .i64 0]) (by simp [results, Try.results62, go_sem, *]) rfl (HE.out _ _)
end Go.Proofs.Ytdedbfbkakofgaa

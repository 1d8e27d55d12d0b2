/- Contracts of the document's Rest, At, Item (abacusref3). Contracts of the document's At and Item (abacusref3). Contracts of the document's Item, Same, Fill (abacusref3). -/
import Derived.Test.YtdedbfbkakofgaaArrAllM26
import Derived.Test.YtdedbfbkakofgaaArrAllM5
namespace Go.Proofs.Ytdedbfbkakofgaa
open Go.RowKit Go.Lib
set_option linter.unusedVariables false
set_option linter.unusedSimpArgs false
attribute [local go_sem] alloc_drewN setCell_drewN

set_option maxRecDepth 100000 in
set_option maxHeartbeats 1600000 in
theorem rrest_any {w : World} {A : Ar} (hA : A.Is w) : Calls Try.prog 130 #[A.v] w (MadeL w A.s.tail) := by
  obtain ⟨sa, sn, sc, aa, an, ac, s, a⟩ := A
  obtain ⟨h1, h2⟩ := hA
  simp only [Ar.v] at *
  have hl := h1.len
  have hcap := h1.cap
  have htop := h1.top
  have hbig := h1.big
  unfold maxLen at htop
  have HB : Hid (Below w.heap.size w (w.alloc (.cells #[.slice sa sn sc, .slice aa an ac] 55))) := abal _ _
  rcases (show sn = 0 ∨ (0 < sn ∧ 1 < sc) ∨ (sn = 1 ∧ sc = 1) by omega) with h0 | ⟨h0, h3⟩ | ⟨h0, h3⟩
  · subst h0
    have hs : s = [] := List.eq_nil_of_length_eq_zero hl
    subst hs
    clear h1 h2 hl
    go_enter Try.func130, Try.ntmps130
    go_wp2
    go_ret
    exact ⟨none, 0, 0, rfl, Ls.zero _ _ (Nat.zero_le _), World.ownsRow_nil _ _ _ _, HB.out⟩
  · obtain ⟨b, off, rfl⟩ := h1.form h0
    have HL : Hid (Ls (w.alloc (.cells #[.slice (some ⟨b, off, none⟩) sn sc, .slice aa an ac] 55)) (some ⟨b, off + 1, none⟩) (sn - 1) (sc - 1) s.tail) := by
      have h := (h1.part 1 (sn - 1) (by omega)).via HB.out
      rw [List.drop_one, List.take_of_length_le (by simp [hl])] at h
      exact h
    have HRG := Lib.hid (HL.out.rng)
    obtain ⟨i0, hi, hz0, hz1, hz2⟩ := info_parts (P := Try.prog) (e := 3) (z := .int .i64 0) (size := 1) (bytes := 8) (by kernel_rfl)
    have hbd : (0 + (sn - 1)) * 8 ≤ 140737488355328 := by omega
    have HOZ : Hid ((w.alloc (.cells #[.slice (some ⟨b, off, none⟩) sn sc, .slice aa an ac] 55)).ownsRow (w.alloc (.cells #[.slice (some ⟨b, off, none⟩) sn sc, .slice aa an ac] 55)).heap.size 3 1 (.slice none 0 0) 0 (([] : List Int).map (Value.int .i64))) := World.ownsRow_nil _ _ _ _
    have q1 : ((sn : Int) == 0) = false := by simp; omega
    have q2 : (sn == 0) = false := by simp; omega
    have q3 : (1 : Int) ≤ sn := by omega
    have q4 : (sn : Int) ≤ sc := by omega
    have q5 : ¬ sc = 1 := by omega
    have q6 : ¬ sc - 1 = 0 := by omega
    have q7 : (1 : Int) ≤ sc := by omega
    clear h1 h2 hl h0
    go_enter Try.func130, Try.ntmps130
    go_wp2_with (at_builtin; refine wpList_append_loc _ rfl _ _ 25 rfl (w.alloc (.cells #[.slice (some ⟨b, off, none⟩) sn sc, .slice aa an ac] 55)).heap.size 3 i0 Try.underlying25 hi hz0 hz1 hz2 _ 0 [] rfl HOZ.out rfl HL.out hbd (Nat.le_refl _) ?_)
    intro bo d w5 hO5 hG5 hl5 hn5
    have HE : Hid (MadeL w s.tail (.returned (.slice bo (sn - 1) d)) w5) := by
      have hO6 : w5.ownsRow (w.heap.size + 1) 3 1 (.slice bo (sn - 1) d) (sn - 1) (s.tail.map (Value.int .i64)) := by simpa using hO5
      exact ⟨_, _, _, rfl, ls_of_own hO6 (by omega) HRG.out, own_mono hO6 (by omega), abvia HB.out ((Below.refl _ _).grown hG5 (Nat.le_refl _) (fun k hk => by simp [Value.ownBlock] at hk))⟩
    clear hO5 hG5 hl5 hn5
    go_wp2
    go_ret
    exact HE.out
  · obtain ⟨b, off, rfl⟩ := h1.form (by omega)
    subst h0 h3
    have hs : s.tail = [] := List.eq_nil_of_length_eq_zero (by simp [hl])
    rw [hs]
    clear h1 h2 hl hs
    go_enter Try.func130, Try.ntmps130
    go_wp2
    go_ret
    exact ⟨none, 0, 0, rfl, Ls.zero _ _ (Nat.zero_le _), World.ownsRow_nil _ _ _ _, HB.out⟩
end Go.Proofs.Ytdedbfbkakofgaa

namespace Go.Proofs.Ytdedbfbkakofgaa
open Go.RowKit Go.Lib
set_option linter.unusedVariables false
set_option linter.unusedSimpArgs false
attribute [local go_sem] alloc_drewN setCell_drewN

theorem itemA_rng {a : List Int} (h : ∀ i, -9223372036854775808 ≤ a.getD i 0 ∧ a.getD i 0 ≤ 9223372036854775807) (j m : Nat) : ∀ i, -9223372036854775808 ≤ (itemA a j m).getD i 0 ∧ (itemA a j m).getD i 0 ≤ 9223372036854775807 := by
  intro i
  unfold itemA
  by_cases hi : i < m
  · rw [show ((a.drop (j * m)).take m).getD i 0 = a.getD (j * m + i) 0 by simp only [List.getD, List.getElem?_take, List.getElem?_drop, if_pos hi]]
    exact h _
  · rw [show ((a.drop (j * m)).take m).getD i 0 = 0 by simp [List.getD, List.getElem?_take, hi]]; omega
/-- The answer out of two rows of the call's own, written into the result's box. -/
theorem made_twoA {w w1 wr : World} {b : Nat} {bo ao : Option Addr} {n d L c : Nat} {s z : List Int} (hw : Below w.heap.size w w1) (hb0 : w.heap.size ≤ b) (hb : b < w1.heap.size) (hr : Below w1.heap.size w1 wr)
    (O1 : wr.ownsRow w1.heap.size 3 1 (.slice bo n d) n (s.map (Value.int .i64))) {B2 : Nat} (hB2 : w1.heap.size ≤ B2) (O2 : wr.ownsRow B2 2 1 (.slice ao L c) L (z.map (Value.int .i64)))
    (h2 : ∀ g, (Value.slice bo n d).ownBlock = some g → g < B2) (b1 : n * 8 ≤ 140737488351232) (b2 : L * 8 ≤ 140737488351232) (r1 : ∀ i, -9223372036854775808 ≤ s.getD i 0 ∧ s.getD i 0 ≤ 9223372036854775807) (r2 : ∀ i, -9223372036854775808 ≤ z.getD i 0 ∧ z.getD i 0 ≤ 9223372036854775807) (u v : Value) :
    MadeA w s z (.returned (.agg #[.slice bo n d, .slice ao L c])) ((wr.setCell ⟨b, 0, none⟩ u).setCell ⟨b, 1, none⟩ v) := by
  obtain ⟨B, e, h1, h2, h3, h4, h5⟩ := made_two (b := b) 0 hw hb0 hb hr O1 hB2 O2 h2 b1 b2 r1 r2 u v
  simp only [Ending.returned.injEq, Value.tuple.injEq, Array.mk.injEq, List.cons.injEq, and_true] at e
  exact ⟨B, by rw [e], h1, h2, h3, h4, h5⟩
set_option maxRecDepth 100000 in
set_option maxHeartbeats 1600000 in
theorem rat0 {w : World} {A : Ar} (hA : A.Is w) (j m p : Nat) (hmay : mayE A.s.tail = 0) (hm : pr A.s.tail = m) (hp : j * m = p) (hj : p + m ≤ A.a.length) (h63 : (j : Int) ≤ 4096) (h0 : m = 0) :
    Calls Try.prog 105 #[A.v, .int .i64 j] w (MadeA w A.s.tail (itemA A.a j m)) := by
  have HRG := Lib.hid (itemA_rng hA.ats.rng j m)
  obtain ⟨z, HZ⟩ : ∃ z, Hid (itemA A.a j m = z) := ⟨_, rfl⟩
  have HZ2 : Hid (z = (A.a.drop p).take m) := by show _ = _; rw [← HZ.out, ← hp]; rfl
  rw [HZ.out] at HRG ⊢
  obtain ⟨sa, sn, sc, aa, an, ac, s, a⟩ := A
  simp only [Ar.v] at *
  have hmul : (j : Int) * (m : Int) = (p : Int) := by rw [← hp]; simp
  have hsz2 : szE s.tail = m := by unfold szE; rw [if_pos hmay]; exact hm
  obtain ⟨W, HW⟩ : ∃ z, Hid ((w.alloc (.cells #[.slice sa sn sc, .slice aa an ac] 55)).alloc (.cells #[.slice none 0 0, .slice none 0 0] 55) = z) := ⟨_, rfl⟩
  have hw : Below w.heap.size w W := by rw [← HW.out]; exact below_box2 _ _ _ _ _
  have hsz : W.heap.size = w.heap.size + 2 := by rw [← HW.out]; simp
  have hIs := hA.via hw
  have B0 : BoxA W w.heap.size (.slice sa sn sc) (.slice aa an ac) := by rw [← HW.out]; exact (BoxA.new _ _ _ _).via (abal _ _)
  have B1 : BoxA W (w.heap.size + 1) (.slice none 0 0) (.slice none 0 0) := by rw [← HW.out]; simpa using BoxA.new (w.alloc (.cells #[.slice sa sn sc, .slice aa an ac] 55)) 55 (.slice none 0 0) (.slice none 0 0)
  have R := Lib.hid (rrest_any hIs)
  simp only [Ar.v] at R
  have g2 := hA.ats.big
  have g3 := hA.ats.cap
  have g4 := hA.ats.top
  have gl := hA.ats.len
  have hst := hA.shp.big
  have hsl := hA.shp.len
  have hSR := hA.shp.rng
  simp only at g2 g3 g4 gl hst hsl hSR
  unfold maxLen at g4
  rw [gl] at hj
  have HWB := Lib.hid hw
  have SZ := Lib.hid hsz
  have HB1 := Lib.hid B1
  have HB0 := Lib.hid B0
  have HIS := Lib.hid hIs
  have HMZ := Lib.hid hsz2
  have HMY := Lib.hid hmay
  have HMU := Lib.hid hmul
  obtain ⟨j0, j1, j2, j3, j4⟩ := B0
  obtain ⟨i0, hi, hz0, hz1, hz2⟩ := info_parts (P := Try.prog) (e := 2) (z := .int .i64 0) (size := 1) (bytes := 8) (by kernel_rfl)
  clear hA hw hsz hIs B1 hm hmay hsz2
  subst h0
  obtain rfl : p = 0 := by omega
  go_enter Try.func105, Try.ntmps105
  go_wp2_with fail
  rw [HW.out]
  refine R.out.mono ?_; rintro e w1 ⟨so, tn, tc, rfl, hL1, hO1, hb1⟩
  have hS := rsz_any hL1
  rw [HMZ.out, HMY.out] at hS
  have CS := Lib.hid hS
  have HL1 := Lib.hid hL1
  have HO1 := Lib.hid hO1
  have HV1 := Lib.hid hb1
  clear hL1 hO1 hb1 hS
  try clear y0 y1 y2 y3 y4
  obtain ⟨y0, y1, y2, y3, y4⟩ := HB0.out.via HV1.out
  try clear z0 z1 z2 z3 z4
  obtain ⟨z0, z1, z2, z3, z4⟩ := HB1.out.via HV1.out
  go_wp2_with fail
  refine CS.out.mono ?_; rintro e w2 ⟨rfl, rfl⟩
  have HOZ : Hid (w2.ownsRow w2.heap.size 2 1 (.slice none 0 0) 0 (([] : List Int).map (Value.int .i64))) := World.ownsRow_nil _ _ _ _
  have hbd : (0 + 0) * 8 ≤ 140737488355328 := by omega
  have htc : ac ≤ maxLen := by unfold maxLen; omega
  have htc0 : ac - 0 ≤ maxLen := by omega
  rcases aa with _ | xa
  · go_wp2_with (at_builtin; refine wpList_append_loc _ rfl _ _ 50 rfl w2.heap.size 2 i0 Try.underlying50 hi hz0 hz1 hz2 _ 0 [] rfl HOZ.out rfl (Ls.zero _ _ (by first | exact htc | exact htc0)) hbd (Nat.le_refl _) ?_)
    intro bo d w' hO5 hG5 hl5
    have HE : Hid (∀ u v, MadeA w s.tail z (.returned (.agg #[.slice so tn tc, .slice bo 0 d])) ((w'.setCell ⟨w.heap.size + 1, 0, none⟩ u).setCell ⟨w.heap.size + 1, 1, none⟩ v)) := by
      intro u v
      have hz : z = [] := by rw [HZ2.out, List.take_zero]
      rw [hz]
      have hB5 : Below w2.heap.size w2 w' := (Below.refl _ _).grown hG5 (Nat.le_refl _) (fun k hk => by simp [Value.ownBlock] at hk)
      have hsw := SZ.out
      exact made_twoA (s := s.tail) (z := []) HWB.out (by omega) (by omega) (abvia HV1.out hB5) (own_below HO1.out hB5 (Nat.le_refl _)) (B2 := w2.heap.size) HV1.out.size (by simpa using hO5) (fun g hg => (own_block HO1.out hg).2) HL1.out.big (by omega) HL1.out.rng (fun i => by simp [List.getD]) u v
    have hB5 : Below w2.heap.size w2 w' := (Below.refl _ _).grown hG5 (Nat.le_refl _) (fun k hk => by simp [Value.ownBlock] at hk)
    obtain ⟨k0, k1, k2, k3, k4⟩ := (HB1.out.via HV1.out).via hB5
    clear hO5 hG5 hl5 hB5
    go_wp2_with fail
    exact bodyPost_ret (v := .agg #[.slice so tn tc, .slice bo 0 d]) (by simp [results, Try.results105, go_sem, *]) rfl (HE.out _ _)
  · go_wp2_with (at_builtin; refine wpList_append_loc _ rfl _ _ 50 rfl w2.heap.size 2 i0 Try.underlying50 hi hz0 hz1 hz2 _ 0 [] rfl HOZ.out rfl (Ls.zero _ _ (by first | exact htc | exact htc0)) hbd (Nat.le_refl _) ?_)
    intro bo d w' hO5 hG5 hl5
    have HE : Hid (∀ u v, MadeA w s.tail z (.returned (.agg #[.slice so tn tc, .slice bo 0 d])) ((w'.setCell ⟨w.heap.size + 1, 0, none⟩ u).setCell ⟨w.heap.size + 1, 1, none⟩ v)) := by
      intro u v
      have hz : z = [] := by rw [HZ2.out, List.take_zero]
      rw [hz]
      have hB5 : Below w2.heap.size w2 w' := (Below.refl _ _).grown hG5 (Nat.le_refl _) (fun k hk => by simp [Value.ownBlock] at hk)
      have hsw := SZ.out
      exact made_twoA (s := s.tail) (z := []) HWB.out (by omega) (by omega) (abvia HV1.out hB5) (own_below HO1.out hB5 (Nat.le_refl _)) (B2 := w2.heap.size) HV1.out.size (by simpa using hO5) (fun g hg => (own_block HO1.out hg).2) HL1.out.big (by omega) HL1.out.rng (fun i => by simp [List.getD]) u v
    have hB5 : Below w2.heap.size w2 w' := (Below.refl _ _).grown hG5 (Nat.le_refl _) (fun k hk => by simp [Value.ownBlock] at hk)
    obtain ⟨k0, k1, k2, k3, k4⟩ := (HB1.out.via HV1.out).via hB5
    clear hO5 hG5 hl5 hB5
    go_wp2_with fail
    exact bodyPost_ret (v := .agg #[.slice so tn tc, .slice bo 0 d]) (by simp [results, Try.results105, go_sem, *]) rfl (HE.out _ _)
set_option maxRecDepth 100000 in
set_option maxHeartbeats 1600000 in
theorem rat1 {w : World} {A : Ar} (hA : A.Is w) (j m p : Nat) (hmay : mayE A.s.tail = 0) (hm : pr A.s.tail = m) (hp : j * m = p) (hj : p + m ≤ A.a.length) (h63 : (j : Int) ≤ 4096) (h0 : 0 < m) :
    Calls Try.prog 105 #[A.v, .int .i64 j] w (MadeA w A.s.tail (itemA A.a j m)) := by
  have HRG := Lib.hid (itemA_rng hA.ats.rng j m)
  obtain ⟨z, HZ⟩ : ∃ z, Hid (itemA A.a j m = z) := ⟨_, rfl⟩
  have HZ2 : Hid (z = (A.a.drop p).take m) := by show _ = _; rw [← HZ.out, ← hp]; rfl
  rw [HZ.out] at HRG ⊢
  obtain ⟨sa, sn, sc, aa, an, ac, s, a⟩ := A
  simp only [Ar.v] at *
  have hmul : (j : Int) * (m : Int) = (p : Int) := by rw [← hp]; simp
  have hsz2 : szE s.tail = m := by unfold szE; rw [if_pos hmay]; exact hm
  obtain ⟨W, HW⟩ : ∃ z, Hid ((w.alloc (.cells #[.slice sa sn sc, .slice aa an ac] 55)).alloc (.cells #[.slice none 0 0, .slice none 0 0] 55) = z) := ⟨_, rfl⟩
  have hw : Below w.heap.size w W := by rw [← HW.out]; exact below_box2 _ _ _ _ _
  have hsz : W.heap.size = w.heap.size + 2 := by rw [← HW.out]; simp
  have hIs := hA.via hw
  have B0 : BoxA W w.heap.size (.slice sa sn sc) (.slice aa an ac) := by rw [← HW.out]; exact (BoxA.new _ _ _ _).via (abal _ _)
  have B1 : BoxA W (w.heap.size + 1) (.slice none 0 0) (.slice none 0 0) := by rw [← HW.out]; simpa using BoxA.new (w.alloc (.cells #[.slice sa sn sc, .slice aa an ac] 55)) 55 (.slice none 0 0) (.slice none 0 0)
  have R := Lib.hid (rrest_any hIs)
  simp only [Ar.v] at R
  have g2 := hA.ats.big
  have g3 := hA.ats.cap
  have g4 := hA.ats.top
  have gl := hA.ats.len
  have hst := hA.shp.big
  have hsl := hA.shp.len
  have hSR := hA.shp.rng
  simp only at g2 g3 g4 gl hst hsl hSR
  unfold maxLen at g4
  rw [gl] at hj
  have HWB := Lib.hid hw
  have SZ := Lib.hid hsz
  have HB1 := Lib.hid B1
  have HB0 := Lib.hid B0
  have HIS := Lib.hid hIs
  have HMZ := Lib.hid hsz2
  have HMY := Lib.hid hmay
  have HMU := Lib.hid hmul
  obtain ⟨j0, j1, j2, j3, j4⟩ := B0
  obtain ⟨i0, hi, hz0, hz1, hz2⟩ := info_parts (P := Try.prog) (e := 2) (z := .int .i64 0) (size := 1) (bytes := 8) (by kernel_rfl)
  obtain ⟨b, off, rfl⟩ : ∃ b off, aa = some ⟨b, off, none⟩ := hA.ats.form (show 0 < an by omega)
  clear hA hw hsz hIs B1 hm hmay hsz2
  clear hp
  go_enter Try.func105, Try.ntmps105
  go_wp2_with fail
  rw [HW.out]
  refine R.out.mono ?_; rintro e w1 ⟨so, tn, tc, rfl, hL1, hO1, hb1⟩
  have hS := rsz_any hL1
  rw [HMZ.out, HMY.out] at hS
  have CS := Lib.hid hS
  have HL1 := Lib.hid hL1
  have HO1 := Lib.hid hO1
  have HV1 := Lib.hid hb1
  clear hL1 hO1 hb1 hS
  try clear y0 y1 y2 y3 y4
  obtain ⟨y0, y1, y2, y3, y4⟩ := HB0.out.via HV1.out
  try clear z0 z1 z2 z3 z4
  obtain ⟨z0, z1, z2, z3, z4⟩ := HB1.out.via HV1.out
  have HLP : Hid (Ls w1 (some ⟨b, off + p, none⟩) (p + m - p) (ac - p) z) := by rw [HZ2.out, Nat.add_sub_cancel_left]; exact (HIS.out.via HV1.out).ats.part p m hj
  have HOZ : Hid (w1.ownsRow w1.heap.size 2 1 (.slice none 0 0) 0 (([] : List Int).map (Value.int .i64))) := World.ownsRow_nil _ _ _ _
  have hbd : (0 + (p + m - p)) * 8 ≤ 140737488355328 := by omega
  have hmul := HMU.out
  go_wp2_with fail
  refine CS.out.mono ?_; rintro e w2 ⟨rfl, rfl⟩
  go_wp2_with (at_builtin; refine wpList_append_loc _ rfl _ _ 50 rfl w2.heap.size 2 i0 Try.underlying50 hi hz0 hz1 hz2 _ 0 [] rfl HOZ.out rfl HLP.out hbd (Nat.le_refl _) ?_)
  intro bo d w' hO5 hG5 hl5 hn5
  have HE : Hid (∀ u v, MadeA w s.tail z (.returned (.agg #[.slice so tn tc, .slice bo m d])) ((w'.setCell ⟨w.heap.size + 1, 0, none⟩ u).setCell ⟨w.heap.size + 1, 1, none⟩ v)) := by
    intro u v
    have hB5 : Below w2.heap.size w2 w' := (Below.refl _ _).grown hG5 (Nat.le_refl _) (fun k hk => by simp [Value.ownBlock] at hk)
    have hsw := SZ.out
    have hO6 : w'.ownsRow w2.heap.size 2 1 (.slice bo m d) m (z.map (Value.int .i64)) := by simpa [Nat.add_sub_cancel_left] using hO5
    exact made_twoA (s := s.tail) (z := z) HWB.out (by omega) (by omega) (abvia HV1.out hB5) (own_below HO1.out hB5 (Nat.le_refl _)) (B2 := w2.heap.size) HV1.out.size hO6 (fun g hg => (own_block HO1.out hg).2) HL1.out.big (by omega) HL1.out.rng HRG.out u v
  have hB5 : Below w2.heap.size w2 w' := (Below.refl _ _).grown hG5 (Nat.le_refl _) (fun k hk => by simp [Value.ownBlock] at hk)
  obtain ⟨k0, k1, k2, k3, k4⟩ := (HB1.out.via HV1.out).via hB5
  clear hO5 hG5 hl5 hB5 hn5
  go_wp2_with fail
  exact bodyPost_ret (v := .agg #[.slice so tn tc, .slice bo m d]) (by simp [results, Try.results105, go_sem, *]) rfl (HE.out _ _)
theorem rat3_any {w : World} {A : Ar} (hA : A.Is w) (j m : Nat) (hmay : mayE A.s.tail = 0) (hm : pr A.s.tail = m) (hj : (j + 1) * m ≤ A.a.length) (h63 : (j : Int) ≤ 4096) :
    Calls Try.prog 105 #[A.v, .int .i64 j] w (MadeA w A.s.tail (itemA A.a j m)) := by
  have hp : j * m + m ≤ A.a.length := by rw [Nat.add_mul, Nat.one_mul] at hj; exact hj
  rcases Nat.eq_zero_or_pos m with h0 | h0
  · exact rat0 hA j m _ hmay hm rfl hp h63 h0
  · exact rat1 hA j m _ hmay hm rfl hp h63 h0
end Go.Proofs.Ytdedbfbkakofgaa

namespace Go.Proofs.Ytdedbfbkakofgaa
open Go.RowKit Go.Lib
set_option linter.unusedVariables false
set_option linter.unusedSimpArgs false
attribute [local go_sem] alloc_drewN setCell_drewN

set_option maxHeartbeats 400000 in
theorem ritem_bad {w : World} {A : Ar} (hA : A.Is w) (i : Int) (hm : amE A.s A.a ≠ 0) :
    Calls Try.prog 73 #[A.v, .int .i64 i] w (MadeE w [] [] 1) := by
  obtain ⟨sa, sn, sc, aa, an, ac, s, a⟩ := A
  obtain ⟨h1, h2⟩ := hA
  simp only [Ar.v] at *
  obtain ⟨W, HWW⟩ : ∃ W, Hid ((w.alloc (.cells #[.slice sa sn sc, .slice aa an ac] 55)).alloc (.cells #[.slice none 0 0, .slice none 0 0] 55) = W) := ⟨_, rfl⟩
  have hw : Below w.heap.size w W := by rw [← HWW.out]; exact below_box2 _ _ _ _ _
  have M := Lib.hid (rmay3_any (A := ⟨sa, sn, sc, aa, an, ac, s, a⟩) ⟨h1.below hw (Nat.le_refl _), h2.below hw (Nat.le_refl _)⟩)
  simp only [Ar.v] at M
  obtain ⟨e, HE⟩ : ∃ e, Hid (amE s a = e) := ⟨_, rfl⟩
  have hm' : (e != 0) = true := by rw [← HE.out]; simpa using hm
  rw [HE.out] at M
  have hsz : W.heap.size = w.heap.size + 2 := by rw [← HWW.out]; simp
  have B1 : BoxA W (w.heap.size + 1) (.slice none 0 0) (.slice none 0 0) := by
    rw [← HWW.out]
    exact ⟨by simp [go_sem], by simp [go_sem], by simp [go_sem], by simp [go_sem], by simp⟩
  have HW := Lib.hid hw
  have SZ := Lib.hid hsz
  have HB1 := Lib.hid B1
  clear h1 h2 hw hm hsz B1
  go_enter Try.func73, Try.ntmps73
  go_wp2_with fail
  rw [HWW.out]
  refine M.out.mono ?_; rintro e w' ⟨rfl, hb⟩
  obtain ⟨k0, k1, k2, k3, k4⟩ := HB1.out.below hb HB1.out.lt
  have HB : Below w.heap.size w w' := HW.out.trans (hb.mono (by have := SZ.out; omega))
  have HBB := Lib.hid HB
  clear HB hb
  go_wp2
  exact bodyPost_ret (v := .tuple #[.agg #[.slice none 0 0, .slice none 0 0], .int .i64 1]) (by simp [results, Try.results73, go_sem, *]) rfl ⟨⟨none, 0, 0, none, 0, 0, [], []⟩, rfl, Ar.is_nil _, rfl, rfl, Ar.own_nil _ _, (HBB.out.setCell (by simp) _).setCell (by simp) _⟩
set_option maxHeartbeats 400000 in
theorem ritem_index {w : World} {A : Ar} (hA : A.Is w) (i : Int) (hr : -9223372036854775808 ≤ i ∧ i ≤ 9223372036854775807) (hm : amE A.s A.a = 0) (hi : i < -(itE A.s A.a) ∨ itE A.s A.a ≤ i) :
    Calls Try.prog 73 #[A.v, .int .i64 i] w (MadeE w [] [] 13) := by
  obtain ⟨sa, sn, sc, aa, an, ac, s, a⟩ := A
  obtain ⟨h1, h2⟩ := hA
  simp only [Ar.v] at *
  obtain ⟨W, HWW⟩ : ∃ W, Hid ((w.alloc (.cells #[.slice sa sn sc, .slice aa an ac] 55)).alloc (.cells #[.slice none 0 0, .slice none 0 0] 55) = W) := ⟨_, rfl⟩
  have hw : Below w.heap.size w W := by rw [← HWW.out]; exact below_box2 _ _ _ _ _
  have hIs : Ar.Is ⟨sa, sn, sc, aa, an, ac, s, a⟩ W := ⟨h1.below hw (Nat.le_refl _), h2.below hw (Nat.le_refl _)⟩
  have M := Lib.hid (rmay3_any hIs)
  have T := Lib.hid (fun (w1 : World) (hb : Below W.heap.size W w1) => ritems_any (hIs.below hb (Nat.le_refl _)))
  simp only [Ar.v, hm] at M T
  have hbd := itE_bd hm
  obtain ⟨n, HN⟩ : ∃ n, Hid (itE s a = n) := ⟨_, rfl⟩
  rw [HN.out] at T hi hbd
  obtain ⟨hbd1, hbd2⟩ := hbd
  have hsz : W.heap.size = w.heap.size + 2 := by rw [← HWW.out]; simp
  have B0 : BoxA W w.heap.size (.slice sa sn sc) (.slice aa an ac) := by
    rw [← HWW.out]
    exact ⟨by simp [go_sem], by simp [go_sem], by simp [go_sem], by simp [go_sem], by simp; omega⟩
  have B1 : BoxA W (w.heap.size + 1) (.slice none 0 0) (.slice none 0 0) := by
    rw [← HWW.out]
    exact ⟨by simp [go_sem], by simp [go_sem], by simp [go_sem], by simp [go_sem], by simp⟩
  have HW := Lib.hid hw
  have SZ := Lib.hid hsz
  have HB1 := Lib.hid B1
  have HB0 := Lib.hid B0
  clear h1 h2 hw hm hsz B1 B0 hIs
  go_enter Try.func73, Try.ntmps73
  go_wp2_with fail
  rw [HWW.out]
  refine M.out.mono ?_; rintro e w1 ⟨rfl, hb⟩
  obtain ⟨j0, j1, j2, j3, j4⟩ := HB0.out.below hb HB0.out.lt
  have HB' := Lib.hid hb
  clear hb
  go_wp2_with fail
  refine (T.out w1 HB'.out).mono ?_; rintro e w' ⟨rfl, hb2⟩
  have hb : Below W.heap.size W w' := HB'.out.trans (hb2.mono HB'.out.size)
  clear j0 j1 j2 j3 j4
  obtain ⟨k0, k1, k2, k3, k4⟩ := HB1.out.below hb HB1.out.lt
  have HB : Below w.heap.size w w' := HW.out.trans (hb.mono (by have := SZ.out; omega))
  have HBB := Lib.hid HB
  clear HB hb hb2
  obtain ⟨hr1, hr2⟩ := hr
  rcases hi with hi | hi
  · have hi0 : i < 0 := by omega
    have hi1 : i + n < 0 := by omega
    go_wp2
    exact bodyPost_ret (v := .tuple #[.agg #[.slice none 0 0, .slice none 0 0], .int .i64 13]) (by simp [results, Try.results73, go_sem, *]) rfl ⟨⟨none, 0, 0, none, 0, 0, [], []⟩, rfl, Ar.is_nil _, rfl, rfl, Ar.own_nil _ _, (HBB.out.setCell (by simp) _).setCell (by simp) _⟩
  · have hi0 : ¬ i < 0 := by omega
    have hi1 : 0 ≤ i := by omega
    go_wp2
    exact bodyPost_ret (v := .tuple #[.agg #[.slice none 0 0, .slice none 0 0], .int .i64 13]) (by simp [results, Try.results73, go_sem, *]) rfl ⟨⟨none, 0, 0, none, 0, 0, [], []⟩, rfl, Ar.is_nil _, rfl, rfl, Ar.own_nil _ _, (HBB.out.setCell (by simp) _).setCell (by simp) _⟩
theorem cmpL_zero : ∀ xs ys : List Int, cmpL xs ys = 0 ↔ xs = ys
  | [], [] => by simp [cmpL]
  | [], _ :: _ => by simp [cmpL]
  | _ :: _, [] => by simp [cmpL]
  | x :: xs, y :: ys => by
    unfold cmpL
    split
    · simp; omega
    · split
      · simp; omega
      · rw [cmpL_zero xs ys]
        constructor
        · intro h; rw [h, show x = y by omega]
        · intro h; simp at h; exact h.2
theorem cmpA_zero {w : World} {A B : Ar} (hA : A.Is w) (hB : B.Is w) : cmpA A B = 0 ↔ (A.s = B.s ∧ A.a = B.a) := by
  unfold cmpA
  rw [orL_zero]
  simp only [List.mem_cons, List.not_mem_nil, or_false, forall_eq_or_imp, forall_eq]
  rw [cmpI_zero, cmpL_zero, cmpL_zero]
  constructor
  · rintro ⟨_, h1, h2⟩; exact ⟨h1, h2⟩
  · rintro ⟨h1, h2⟩
    refine ⟨?_, h1, h2⟩
    rw [← hA.shp.len, ← hB.shp.len, h1]
set_option maxHeartbeats 400000 in
theorem rsame_any {w : World} {A B : Ar} (hA : A.Is w) (hB : B.Is w) :
    Calls Try.prog 71 #[A.v, B.v] w (RetB w (.bool (decide (A.s = B.s ∧ A.a = B.a)))) := by
  have hz : cmpA A B = 0 ↔ (A.s = B.s ∧ A.a = B.a) := cmpA_zero hA hB
  obtain ⟨W, HW⟩ : ∃ z, Hid ((w.alloc (.cells #[.slice A.sa A.sn A.sc, .slice A.aa A.an A.ac] 55)).alloc (.cells #[.slice B.sa B.sn B.sc, .slice B.aa B.an B.ac] 55) = z) := ⟨_, rfl⟩
  have hw : Below w.heap.size w W := by rw [← HW.out]; exact below_box2 _ _ _ _ _
  have C := Lib.hid (rcompare_any (hA.via hw) (hB.via hw))
  obtain ⟨c, HC⟩ : ∃ c, Hid (cmpA A B = c) := ⟨_, rfl⟩
  obtain ⟨r, HR⟩ : ∃ r, Hid (decide (A.s = B.s ∧ A.a = B.a) = r) := ⟨_, rfl⟩
  have HF : Hid (r = (c == 0)) := by
    show r = (c == 0)
    rw [← HR.out, ← HC.out]
    by_cases h : A.s = B.s ∧ A.a = B.a
    · rw [decide_eq_true h, hz.2 h]; rfl
    · rw [decide_eq_false h]
      have : ¬ cmpA A B = 0 := fun h2 => h (hz.1 h2)
      simp [this]
  rw [HC.out] at C
  rw [HR.out]
  clear HC HR hz hA hB
  have HWB := Lib.hid hw
  obtain ⟨sa, sn, sc, aa, an, ac, s, a⟩ := A
  obtain ⟨ta, tn, tc, ba, bn, bc, t, b⟩ := B
  simp only [Ar.v] at *
  clear hw
  go_enter Try.func71, Try.ntmps71
  go_wp2_with fail
  rw [HW.out]
  refine C.out.mono ?_; rintro e w' ⟨rfl, hb⟩
  have HB := Lib.hid (abvia HWB.out hb)
  clear hb
  go_wp2
  go_ret
  exact RetB.mk (boolv HF.out.symm) HB.out
/-- The answer, laid into a box of its own and then into the result's box. -/
theorem made_put0 {w w3 : World} {B : Ar} {s a : List Int} {base b : Nat} (hI : B.Is w3) (hs : B.s = s) (ha : B.a = a) (hO : B.Own w3 base) (hw : Below w.heap.size w w3) (hb1 : w.heap.size ≤ b) (hb : b < base) (T : TypeId) (u v : Value) :
    MadeE w s a 0 (.returned (.tuple #[.agg #[.slice B.sa B.sn B.sc, .slice B.aa B.an B.ac], .int .i64 0])) (((w3.setCell ⟨b, 0, none⟩ u).setCell ⟨b, 1, none⟩ v).alloc (.cells #[.slice B.sa B.sn B.sc, .slice B.aa B.an B.ac] T)) := made_move 0 hI hs ha hO hw hb1 hb T u v
set_option maxRecDepth 100000 in
set_option maxHeartbeats 800000 in
theorem ritem_neg {w : World} {A : Ar} (hA : A.Is w) (i : Int) (hm : amE A.s A.a = 0) (hi1 : -(itE A.s A.a) ≤ i) (hi2 : i < itE A.s A.a) (hneg : i < 0) (j m : Nat)
    (hj : (j : Int) = if i < 0 then i + itE A.s A.a else i) (hmm : pr A.s.tail = m) :
    Calls Try.prog 73 #[A.v, .int .i64 i] w (MadeE w A.s.tail (itemA A.a j m) 0) := by
  have hmt := mayE_tail (amE_zero hm).1
  have hbd := itE_bd hm
  have hj63 : (j : Int) ≤ 4096 := by split at hj <;> omega
  have hjn : (j : Int) < itE A.s A.a := by split at hj <;> omega
  have hjl : (j + 1) * m ≤ A.a.length := by
    obtain ⟨N, m', e1, e2, e3⟩ := item_len hm
    rw [hmm] at e2
    obtain rfl : m = m' := by omega
    rw [← e3]
    exact Nat.mul_le_mul_right _ (by omega)
  obtain ⟨z, HZ⟩ : ∃ z, Hid (itemA A.a j m = z) := ⟨_, rfl⟩
  obtain ⟨W, HW⟩ : ∃ z, Hid ((w.alloc (.cells #[.slice A.sa A.sn A.sc, .slice A.aa A.an A.ac] 55)).alloc (.cells #[.slice none 0 0, .slice none 0 0] 55) = z) := ⟨_, rfl⟩
  have hw : Below w.heap.size w W := by rw [← HW.out]; exact below_box2 _ _ _ _ _
  have hsz : W.heap.size = w.heap.size + 2 := by rw [← HW.out]; simp
  have hIs := hA.via hw
  have B0 : BoxA W w.heap.size (.slice A.sa A.sn A.sc) (.slice A.aa A.an A.ac) := by rw [← HW.out]; exact (BoxA.new _ _ _ _).via (abal _ _)
  have B1 : BoxA W (w.heap.size + 1) (.slice none 0 0) (.slice none 0 0) := by rw [← HW.out]; simpa using BoxA.new (w.alloc (.cells #[.slice A.sa A.sn A.sc, .slice A.aa A.an A.ac] 55)) 55 (.slice none 0 0) (.slice none 0 0)
  have M := Lib.hid (rmay3_any hIs)
  have T := Lib.hid (fun (w1 : World) (hb : Below W.heap.size W w1) => ritems_any (hIs.below hb (Nat.le_refl _)))
  have X := Lib.hid (fun (w1 : World) (hb : Below W.heap.size W w1) => rat3_any (hIs.below hb (Nat.le_refl _)) j m hmt hmm hjl hj63)
  rw [HZ.out] at X ⊢
  obtain ⟨sa, sn, sc, aa, an, ac, s, a⟩ := A
  simp only [Ar.v, hm] at *
  obtain ⟨n, HN⟩ : ∃ n, Hid (itE s a = n) := ⟨_, rfl⟩
  rw [HN.out] at T hi1 hi2 hj hbd hjn
  obtain ⟨hbd1, hbd2⟩ := hbd
  have hjj : i + n = (j : Int) := by rw [hj, if_pos hneg]
  have HWB := Lib.hid hw
  have SZ := Lib.hid hsz
  have HB1 := Lib.hid B1
  have HB0 := Lib.hid B0
  clear hA hw hm hsz B1 B0 hIs hj hmt hmm hjl
  go_enter Try.func73, Try.ntmps73
  go_wp2_with fail
  rw [HW.out]
  refine M.out.mono ?_; rintro e w1 ⟨rfl, hb1⟩
  have HV1 := Lib.hid hb1
  clear hb1
  try clear j0 j1 j2 j3 j4
  obtain ⟨j0, j1, j2, j3, j4⟩ := HB0.out.via HV1.out
  go_wp2_with fail
  refine (T.out w1 HV1.out).mono ?_; rintro e w2 ⟨rfl, hb2⟩
  have hb : Below W.heap.size W w2 := HV1.out.trans (hb2.mono HV1.out.size)
  clear j0 j1 j2 j3 j4
  have HV2 := Lib.hid hb
  clear hb hb2
  try clear k0 k1 k2 k3 k4
  obtain ⟨k0, k1, k2, k3, k4⟩ := HB0.out.via HV2.out
  go_wp2_with fail
  refine (X.out w2 HV2.out).mono ?_; rintro e w3 ⟨⟨sa3, sn3, sc3, aa3, an3, ac3, s3, a3⟩, rfl, hI3, hs3, ha3, hO3, hbq⟩
  have HQ := Lib.hid (made_put0 hI3 hs3 ha3 hO3 (abvia HWB.out (abvia HV2.out hbq)) (b := w.heap.size + 1) (by omega) (by have := SZ.out; have := HV2.out.size; omega))
  have HV3 := Lib.hid (abvia HV2.out hbq)
  try clear z0 z1 z2 z3 z4
  obtain ⟨z0, z1, z2, z3, z4⟩ := HB1.out.via HV3.out
  clear hI3 hs3 ha3 hO3 hbq
  simp only [Ar.v]
  go_wp2_with fail
  exact bodyPost_ret (v := .tuple #[.agg #[.slice sa3 sn3 sc3, .slice aa3 an3 ac3], .int .i64 0]) (by simp [results, Try.results73, go_sem, *]) rfl (HQ.out _ _ _)
set_option maxRecDepth 100000 in
set_option maxHeartbeats 800000 in
theorem ritem_pos {w : World} {A : Ar} (hA : A.Is w) (i : Int) (hm : amE A.s A.a = 0) (hi1 : -(itE A.s A.a) ≤ i) (hi2 : i < itE A.s A.a) (hneg : ¬ i < 0) (j m : Nat)
    (hj : (j : Int) = if i < 0 then i + itE A.s A.a else i) (hmm : pr A.s.tail = m) :
    Calls Try.prog 73 #[A.v, .int .i64 i] w (MadeE w A.s.tail (itemA A.a j m) 0) := by
  have hmt := mayE_tail (amE_zero hm).1
  have hbd := itE_bd hm
  have hj63 : (j : Int) ≤ 4096 := by split at hj <;> omega
  have hjn : (j : Int) < itE A.s A.a := by split at hj <;> omega
  have hjl : (j + 1) * m ≤ A.a.length := by
    obtain ⟨N, m', e1, e2, e3⟩ := item_len hm
    rw [hmm] at e2
    obtain rfl : m = m' := by omega
    rw [← e3]
    exact Nat.mul_le_mul_right _ (by omega)
  obtain ⟨z, HZ⟩ : ∃ z, Hid (itemA A.a j m = z) := ⟨_, rfl⟩
  obtain ⟨W, HW⟩ : ∃ z, Hid ((w.alloc (.cells #[.slice A.sa A.sn A.sc, .slice A.aa A.an A.ac] 55)).alloc (.cells #[.slice none 0 0, .slice none 0 0] 55) = z) := ⟨_, rfl⟩
  have hw : Below w.heap.size w W := by rw [← HW.out]; exact below_box2 _ _ _ _ _
  have hsz : W.heap.size = w.heap.size + 2 := by rw [← HW.out]; simp
  have hIs := hA.via hw
  have B0 : BoxA W w.heap.size (.slice A.sa A.sn A.sc) (.slice A.aa A.an A.ac) := by rw [← HW.out]; exact (BoxA.new _ _ _ _).via (abal _ _)
  have B1 : BoxA W (w.heap.size + 1) (.slice none 0 0) (.slice none 0 0) := by rw [← HW.out]; simpa using BoxA.new (w.alloc (.cells #[.slice A.sa A.sn A.sc, .slice A.aa A.an A.ac] 55)) 55 (.slice none 0 0) (.slice none 0 0)
  have M := Lib.hid (rmay3_any hIs)
  have T := Lib.hid (fun (w1 : World) (hb : Below W.heap.size W w1) => ritems_any (hIs.below hb (Nat.le_refl _)))
  have X := Lib.hid (fun (w1 : World) (hb : Below W.heap.size W w1) => rat3_any (hIs.below hb (Nat.le_refl _)) j m hmt hmm hjl hj63)
  rw [HZ.out] at X ⊢
  obtain ⟨sa, sn, sc, aa, an, ac, s, a⟩ := A
  simp only [Ar.v, hm] at *
  obtain ⟨n, HN⟩ : ∃ n, Hid (itE s a = n) := ⟨_, rfl⟩
  rw [HN.out] at T hi1 hi2 hj hbd hjn
  obtain ⟨hbd1, hbd2⟩ := hbd
  have hjj : i = (j : Int) := by rw [hj, if_neg hneg]
  subst hjj
  have HWB := Lib.hid hw
  have SZ := Lib.hid hsz
  have HB1 := Lib.hid B1
  have HB0 := Lib.hid B0
  clear hA hw hm hsz B1 B0 hIs hj hmt hmm hjl
  go_enter Try.func73, Try.ntmps73
  go_wp2_with fail
  rw [HW.out]
  refine M.out.mono ?_; rintro e w1 ⟨rfl, hb1⟩
  have HV1 := Lib.hid hb1
  clear hb1
  try clear j0 j1 j2 j3 j4
  obtain ⟨j0, j1, j2, j3, j4⟩ := HB0.out.via HV1.out
  go_wp2_with fail
  refine (T.out w1 HV1.out).mono ?_; rintro e w2 ⟨rfl, hb2⟩
  have hb : Below W.heap.size W w2 := HV1.out.trans (hb2.mono HV1.out.size)
  clear j0 j1 j2 j3 j4
  have HV2 := Lib.hid hb
  clear hb hb2
  try clear k0 k1 k2 k3 k4
  obtain ⟨k0, k1, k2, k3, k4⟩ := HB0.out.via HV2.out
  go_wp2_with fail
  refine (X.out w2 HV2.out).mono ?_; rintro e w3 ⟨⟨sa3, sn3, sc3, aa3, an3, ac3, s3, a3⟩, rfl, hI3, hs3, ha3, hO3, hbq⟩
  have HQ := Lib.hid (made_put0 hI3 hs3 ha3 hO3 (abvia HWB.out (abvia HV2.out hbq)) (b := w.heap.size + 1) (by omega) (by have := SZ.out; have := HV2.out.size; omega))
  have HV3 := Lib.hid (abvia HV2.out hbq)
  try clear z0 z1 z2 z3 z4
  obtain ⟨z0, z1, z2, z3, z4⟩ := HB1.out.via HV3.out
  clear hI3 hs3 ha3 hO3 hbq
  simp only [Ar.v]
  go_wp2_with fail
  exact bodyPost_ret (v := .tuple #[.agg #[.slice sa3 sn3 sc3, .slice aa3 an3 ac3], .int .i64 0]) (by simp [results, Try.results73, go_sem, *]) rfl (HQ.out _ _ _)
theorem ritem_any {w : World} {A : Ar} (hA : A.Is w) (i : Int) (hm : amE A.s A.a = 0) (hi1 : -(itE A.s A.a) ≤ i) (hi2 : i < itE A.s A.a) :
    Calls Try.prog 73 #[A.v, .int .i64 i] w (MadeE w A.s.tail (itemA A.a (itJ i (itE A.s A.a)) (pr A.s.tail).toNat) 0) := by
  have hn1 : 1 ≤ itE A.s A.a := by omega
  obtain ⟨m, e1, e2, e3⟩ := item_part hm hn1
  have hj : ((itJ i (itE A.s A.a) : Nat) : Int) = if i < 0 then i + itE A.s A.a else i := by
    unfold itJ; split <;> omega
  have hmm : pr A.s.tail = (((pr A.s.tail).toNat : Nat) : Int) := by omega
  by_cases hneg : i < 0
  · exact ritem_neg hA i hm hi1 hi2 hneg _ _ hj hmm
  · exact ritem_pos hA i hm hi1 hi2 hneg _ _ hj hmm
end Go.Proofs.Ytdedbfbkakofgaa

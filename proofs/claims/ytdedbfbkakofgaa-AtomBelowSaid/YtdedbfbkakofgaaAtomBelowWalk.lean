/- AtomBelow: the walk of the statement's function. -/
import Derived.Test.YtdedbfbkakofgaaAtomEachWalk
import Derived.Test.YtdedbfbkakofgaaAtomBelPlain
namespace Go.Proofs.Ytdedbfbkakofgaa
open Go.RowKit Go.Lib
set_option linter.unusedVariables false
set_option linter.unusedSimpArgs false
attribute [local go_sem] alloc_drewN setCell_drewN

theorem bA_len {op : Int} (q : Bool) {s a t b : List Int} {N : Nat} (h1 : amE s a = 0) (h2 : amE t b = 0) (hr : refV op 2 = 0) (h : agE s t = 0) (h' : agE t s = 0) (hl : agL s t = t) (hl' : agL t s = t) (hN : pr t = N) : (bA op q s a t b).length ≤ N := by
  obtain ⟨-, g1, g2⟩ := b_gen q h1 h2 hr h h' hl hl' hN
  by_cases h0 : bE op q s a t b = 0
  · rw [(g1 h0).2]; simp
  · rw [(g2 h0).2]; simp
theorem ibA_len {op : Int} (q : Bool) {ns t b : List Int} {m i : Nat} (hi : amE t (itemA b i m) = 0) (hr : refV op 2 = 0) (ht : pr t = m) : (ibA op q ns t b m i).length ≤ m := by
  obtain ⟨k1, k2, k3, k4⟩ := agl_nil t
  exact bA_len q rfl hi hr k2 k4 k1 k3 ht
theorem flat_snoc (f : Nat → List Int) (k : Nat) : (List.range (k + 1)).flatMap f = (List.range k).flatMap f ++ f k := by
  rw [List.range_succ, List.flatMap_append]; simp
theorem flat_len (f : Nat → List Int) (n m : Nat) (h : ∀ i, i < n → (f i).length ≤ m) : ∀ k, k ≤ n → ((List.range k).flatMap f).length ≤ k * m := by
  intro k hk
  induction k with
  | zero => simp
  | succ k ih =>
    rw [flat_snoc, List.length_append, Nat.add_mul, Nat.one_mul]
    have := ih (by omega)
    have := h k (by omega)
    omega
theorem bA_rng {op : Int} (q : Bool) {s a t b : List Int} (ha : ∀ i, -9223372036854775808 ≤ a.getD i 0 ∧ a.getD i 0 ≤ 9223372036854775807) (hb : ∀ i, -9223372036854775808 ≤ b.getD i 0 ∧ b.getD i 0 ≤ 9223372036854775807) :
    ∀ x, x ∈ bA op q s a t b → -9223372036854775808 ≤ x ∧ x ≤ 9223372036854775807 := by
  intro x hx
  have key : ∀ (s a t b : List Int), (∀ i, -9223372036854775808 ≤ a.getD i 0 ∧ a.getD i 0 ≤ 9223372036854775807) → (∀ i, -9223372036854775808 ≤ b.getD i 0 ∧ b.getD i 0 ≤ 9223372036854775807) → x ∈ adyA op s a t b → -9223372036854775808 ≤ x ∧ x ≤ 9223372036854775807 := by
    intro s a t b ha hb hx
    unfold adyA at hx
    split at hx
    · obtain ⟨i, -, rfl⟩ := List.mem_map.1 hx
      exact dy_rng _ _ _ (ha _) (hb _)
    · cases hx
  cases q
  · exact key s a t b ha hb hx
  · exact key t b s a hb ha hx
theorem rng_mem {l : List Int} (h : ∀ x, x ∈ l → -9223372036854775808 ≤ x ∧ x ≤ 9223372036854775807) (i : Nat) : -9223372036854775808 ≤ l.getD i 0 ∧ l.getD i 0 ≤ 9223372036854775807 := by
  rw [List.getD_eq_getElem?_getD]
  rcases Nat.lt_or_ge i l.length with hi | hi
  · rw [List.getElem?_eq_getElem hi]; exact h _ (List.getElem_mem hi)
  · rw [List.getElem?_eq_none hi]; simp
theorem itemA_rng {b : List Int} (hb : ∀ i, -9223372036854775808 ≤ b.getD i 0 ∧ b.getD i 0 ≤ 9223372036854775807) (j m i : Nat) : -9223372036854775808 ≤ (itemA b j m).getD i 0 ∧ (itemA b j m).getD i 0 ≤ 9223372036854775807 := by
  rcases Nat.lt_or_ge i m with h | h
  · rw [itemA_getD h]; exact hb _
  · rw [List.getD_eq_getElem?_getD, List.getElem?_eq_none (by simp [itemA]; omega)]; simp
set_option maxRecDepth 100000 in
set_option maxHeartbeats 6400000 in
theorem below_ok {w : World} {op : Int} {ao : Option Addr} {nn nc : Nat} {zs : List Int} (hns : Ls w ao nn nc zs) {Y : Ar} (hY : Y.Is w) {n : Nat} {tl : List Int} (ht : Y.s = (n : Int) :: tl) (hm : amE Y.s Y.a = 0) (hh : hasV op 2 = true) (hnn : n ≤ nn) :
    Calls Try.prog 10 #[.int .i64 op, .slice ao nn nc, Y.v] w (RetB w (.bool true)) := by
  obtain ⟨ta, tn, tc, ba, bn, bc, t, b⟩ := Y
  simp only at ht
  subst ht
  simp only [Ar.v] at hm ⊢
  obtain ⟨W, HWW⟩ : ∃ W, Hid (w.alloc (.cells #[.slice ta tn tc, .slice ba bn bc] 55) = W) := ⟨_, rfl⟩
  have hw : Below w.heap.size w W := by rw [← HWW.out]; exact abal _ _
  have BY : BoxA W w.heap.size (.slice ta tn tc) (.slice ba bn bc) := by rw [← HWW.out]; exact BoxA.new _ _ _ _
  have hr := (refV_two op 2).1 hh
  have hIN := hns.via hw
  have hIY := hY.via hw
  have hcap := hns.cap
  have htop := hns.top
  unfold maxLen at htop
  obtain ⟨m, p1, p2, p3, -⟩ := below_gen false hm hr (ns := zs.take n) (by rw [List.length_take, hns.len]; omega)
  have hG := fun q => below_gen (op := op) q hm hr (ns := zs.take n) (by rw [List.length_take, hns.len]; omega)
  have hn4 : n ≤ 4096 := by
    have h1 := (itE_bd hm).2
    rw [show itE ((n : Int) :: tl) b = n by simp [itE, hm]] at h1; omega
  have htn : 1 ≤ tn := by have h1 := hY.shp.len; simp only [List.length_cons] at h1; omega
  have hbn : n * m ≤ 4096 := by rw [p1]; exact am_len hm
  have HG : Hid (∀ q, bE op q [(n : Int)] (zs.take n) ((n : Int) :: tl) b = firE ((List.range n).map (ibE op q (zs.take n) tl b m)) ∧
    (bE op q [(n : Int)] (zs.take n) ((n : Int) :: tl) b = 0 → bS op q [(n : Int)] (zs.take n) ((n : Int) :: tl) b = (n : Int) :: tl ∧ bA op q [(n : Int)] (zs.take n) ((n : Int) :: tl) b = (List.range n).flatMap (ibA op q (zs.take n) tl b m)) ∧
    (bE op q [(n : Int)] (zs.take n) ((n : Int) :: tl) b ≠ 0 → bS op q [(n : Int)] (zs.take n) ((n : Int) :: tl) b = [] ∧ bA op q [(n : Int)] (zs.take n) ((n : Int) :: tl) b = [])) := by
    intro q
    obtain ⟨m', r1, r2, -, r4⟩ := hG q
    obtain rfl : m' = m := by rw [p2] at r2; exact_mod_cast r2.symm
    exact r4
  have BG := Lib.hid (begun5_any W)
  have CY := Lib.hid (fun w1 (hb : Below W.heap.size W w1) => arrmay_any (hIY.via hb))
  have CH2 := Lib.hid (fun w1 => has_any op 2 w1)
  have CI : Hid (∀ w1, Below W.heap.size W w1 → ∀ j : Nat, j < n → Calls Try.prog 39 #[.agg #[.slice ta tn tc, .slice ba bn bc], .int .i64 j] w1 (MadeE w1 tl (itemA b j m) 0)) := by
    intro w1 hb j hj
    have e0 : itE ((n : Int) :: tl) b = n := by simp [itE, hm]
    have h := item_any (hIY.via hb) (j : Int) hm (by show -(itE ((n : Int) :: tl) b) ≤ _; rw [e0]; omega) (by show _ < itE ((n : Int) :: tl) b; rw [e0]; omega)
    simp only [Ar.v, List.tail_cons] at h
    rw [e0, p2, show itJ (j : Int) n = j by unfold itJ; rw [if_neg (by omega)]; simp] at h
    simpa using h
  simp only [Ar.v] at CY
  rw [hm] at CY
  rw [hh] at CH2
  have HP3 := Lib.hid p3
  have HP2 := Lib.hid p2
  have HR0 := Lib.hid hr
  have HM := Lib.hid hm
  have HLY := Lib.hid hY.shp
  have HRN := Lib.hid hns.rng
  have HRB := Lib.hid hY.ats.rng
  have HW := Lib.hid hw
  have IN := Lib.hid hIN
  have IY := Lib.hid hIY
  have Y1 := Lib.hid BY
  have HV0 : Hid (Below W.heap.size W W) := Below.refl _ _
  have q1 : ((tn : Int) == 0) = false := by simp; omega
  have q2 : (tn == 0) = false := by simp; omega
  have q3 : decide ((nn : Int) < n) = false := by simp; omega
  have q4 : decide (nn < n) = false := by simp; omega
  have q5 : (0 : Int) < tn := by omega
  have q6 : 0 < tn := by omega
  have q7 : (n : Int) ≤ nc := by omega
  clear hns hY hIN hIY hw BY hm hh hr p1 p2 p3 hG
  go_enter Try.func10, Try.ntmps10
  go_wp2_with fail
  rw [HWW.out]
  refine (BG.out).mono ?_; rintro e w1 ⟨rfl, hbq⟩
  have HV1 := Lib.hid (abvia HV0.out hbq)
  clear hbq
  go_wp2_with fail
  refine (CH2.out w1).mono ?_; rintro e w2 ⟨rfl, nq, hwq⟩
  have HV2 : Hid (Below W.heap.size W w2) := by show Below _ _ _; rw [hwq]; exact abvia HV1.out (adrew _ _)
  clear hwq
  try clear y0 y1
  obtain ⟨y0, y1, -, -, -⟩ := Y1.out.via HV2.out
  go_wp2_with fail
  refine (CY.out w2 HV2.out).mono ?_; rintro e w3 ⟨rfl, hbq⟩
  have HV3 := Lib.hid (abvia HV2.out hbq)
  clear hbq
  try clear y0 y1
  obtain ⟨y0, y1, -, -, -⟩ := Y1.out.via HV3.out
  obtain ⟨ob, fb1, rfl, hcb⟩ := (IY.out.via HV3.out).shp.at q6
  have d1 := hcb 0 q6
  simp only [Nat.add_zero, List.getD_cons_zero] at d1
  clear hcb
  obtain ⟨W4, HW4⟩ : ∃ z, Hid ((w3.alloc (.cells #[.int .i64 n] 3)).alloc (.cells #[.slice (some ⟨w3.heap.size, 0, none⟩) 1 1, .slice ao n nc] 55) = z) := ⟨_, rfl⟩
  have hal : Below w3.heap.size w3 W4 := by rw [← HW4.out]; exact below_box2 _ _ _ _ _
  have X4 : Hid (BoxA W4 (w3.heap.size + 1) (.slice (some ⟨w3.heap.size, 0, none⟩) 1 1) (.slice ao n nc)) := by
    show BoxA _ _ _ _
    rw [← HW4.out]; simpa using BoxA.new (w3.alloc (.cells #[.int .i64 n] 3)) 55 (.slice (some ⟨w3.heap.size, 0, none⟩) 1 1) (.slice ao n nc)
  have I4 : Hid (Ar.Is ⟨some ⟨w3.heap.size, 0, none⟩, 1, 1, ao, n, nc, [(n : Int)], zs.take n⟩ W4) := by
    refine ⟨?_, ((IN.out.via HV3.out).take hnn).via hal⟩
    show Ls W4 _ _ _ _
    rw [← HW4.out]
    exact (ls_one w3 3 n (by omega)).via (abal _ _)
  have HV4 := Lib.hid (abvia HV3.out hal)
  clear hal
  go_wp2_with fail
  rw [HW4.out]
  clear d1 y0 y1
  go_loopw [9] (fun sd wr => ∃ k : Nat, k ≤ 2 ∧ sd = .int .i64 k ∧ Hid (Below W4.heap.size W4 wr)) (fun sd _ => 2 - (RowKit.intOf sd).toNat)
  case atStart => exact ⟨0, by omega, rfl, Below.refl _ _⟩
  case round =>
    obtain ⟨k, hk, rfl, HVR⟩ := hrel
    by_cases hk2 : k = 2
    · subst hk2
      go_wp2
      go_ret
      exact RetB.mk rfl (abvia HW.out (abvia HV4.out HVR.out))
    rcases (show k = 0 ∨ k = 1 by omega) with rfl | rfl
    · have HVA := Lib.hid (abvia HV4.out HVR.out)
      try clear y0 y1
      obtain ⟨y0, y1, -, -, -⟩ := Y1.out.via HVA.out
      clear hk hk2
      obtain ⟨wo, hwo⟩ : ∃ wo : World, wo = wr := ⟨_, rfl⟩
      subst hwo
      obtain ⟨W6, HW6⟩ : ∃ z, Hid (wo.alloc (.cells #[.slice (some ⟨ob, fb1, none⟩) tn tc, .slice none 0 0] 55) = z) := ⟨_, rfl⟩
      have hwi : WantI wo W6 wo.heap.size (.slice (some ⟨ob, fb1, none⟩) tn tc) none 0 0 [] := by rw [← HW6.out]; exact WantI.new _ _
      have HWI := Lib.hid hwi
      obtain ⟨k0, k1, k2, k3, k4⟩ := hwi.box
      clear hwi
      go_wp2_with fail
      rw [HW6.out]
      clear y0 y1
      go_loopw [11, 12] (fun f i wr => ∃ (j : Nat) (fv : Int) (co : Option Addr) (L c : Nat), j ≤ n ∧ f = .int .i64 fv ∧ i = .int .i64 j ∧ Hid (firE ((List.range j).map (ibE op false (zs.take n) tl b m)) = fv) ∧ Hid (WantI wo wr wo.heap.size (.slice (some ⟨ob, fb1, none⟩) tn tc) co L c ((List.range j).flatMap (ibA op false (zs.take n) tl b m)))) (fun f i _ => n - (RowKit.intOf i).toNat)
      case atStart => exact ⟨0, 0, none, 0, 0, Nat.zero_le _, rfl, rfl, rfl, HWI⟩
      case round =>
        obtain ⟨j, fv, co, L, c, hj, rfl, rfl, HF0, HR⟩ := hrel
        clear k0 k1 k2 k3 k4
        obtain ⟨k0, k1, k2, k3, k4⟩ := HR.out.box
        have HVB := Lib.hid (abvia HVA.out HR.out.below)
        try clear y0 y1
        obtain ⟨y0, y1, -, -, -⟩ := Y1.out.via HVB.out
        by_cases hgo : j < n ∧ fv = 0
        · obtain ⟨hlt, rfl⟩ := hgo
          have hlt' : (j : Int) < n := by omega
          have hjn : (j : Int) < nn := by omega
          have CJ := Lib.hid (CI.out wr HVB.out j hlt)
          obtain ⟨it, HIT⟩ : ∃ z, Hid (itemA b j m = z) := ⟨_, rfl⟩
          rw [HIT.out] at CJ
          obtain ⟨on, fn1, rfl, hcn⟩ := IN.out.at (show 0 < nn by omega)
          have hcn1 := hcn j (by omega)
          clear hcn
          obtain ⟨x, HX⟩ : ∃ z, Hid (zs.getD j 0 = z) := ⟨_, rfl⟩
          rw [HX.out] at hcn1
          have HXR : Hid (-9223372036854775808 ≤ x ∧ x ≤ 9223372036854775807) := by show _ ∧ _; rw [← HX.out]; exact HRN.out j
          go_wp2_with fail
          refine CJ.out.mono ?_; rintro e w7 ⟨⟨sa7, sn7, sc7, aa7, an7, ac7, s7, a7⟩, rfl, hI7, hs7, ha7, -, hbq⟩
          simp only at hs7 ha7
          have hs7' := hs7.symm
          have ha7' := ha7.symm
          subst hs7' ha7'
          simp only [Ar.v]
          obtain ⟨W7, HW7⟩ : ∃ z, Hid (w7.alloc (.cells #[.slice sa7 sn7 sc7, .slice aa7 an7 ac7] 55) = z) := ⟨_, rfl⟩
          have hal : Below w7.heap.size w7 W7 := by rw [← HW7.out]; exact abal _ _
          have X7 : Hid (BoxA W7 w7.heap.size (.slice sa7 sn7 sc7) (.slice aa7 an7 ac7)) := by rw [← HW7.out]; exact BoxA.new _ _ _ _
          have I7 := Lib.hid (hI7.via hal)
          have HC7 : Hid (Below wr.heap.size wr W7) := abvia hbq hal
          have HR7 := Lib.hid (HR.out.next HC7.out)
          have HV7 := Lib.hid (abvia HVA.out HR7.out.below)
          have d2 : (w7.alloc (.cells #[.slice sa7 sn7 sc7, .slice aa7 an7 ac7] 55)).cell? ⟨on, fn1 + j, none⟩ = some (.int .i64 x) := by
            rw [HW7.out]; exact (HV7.out.cell (p := ⟨on, fn1 + j, none⟩) (World.block_lt_of_cell? W _ hcn1)).trans hcn1
          clear hI7 hbq hal k0 k1 k2 k3 k4 y0 y1
          go_wp2_with fail
          rw [HW7.out]
          refine (scalar_any x W7 HXR.out).mono ?_; rintro e w8 ⟨⟨sa8, sn8, sc8, aa8, an8, ac8, s8, a8⟩, rfl, hI8, hs8, ha8, -, hbq⟩
          simp only at hs8 ha8
          subst hs8 ha8
          simp only [Ar.v]
          obtain ⟨W8, HW8⟩ : ∃ z, Hid (w8.alloc (.cells #[.slice sa8 sn8 sc8, .slice aa8 an8 ac8] 55) = z) := ⟨_, rfl⟩
          have hal : Below w8.heap.size w8 W8 := by rw [← HW8.out]; exact abal _ _
          have X8 : Hid (BoxA W8 w8.heap.size (.slice sa8 sn8 sc8) (.slice aa8 an8 ac8)) := by rw [← HW8.out]; exact BoxA.new _ _ _ _
          have I8 := Lib.hid (hI8.via hal)
          have hB8 : Below W7.heap.size W7 W8 := abvia hbq hal
          have HC8 := Lib.hid (abvia HC7.out hB8)
          have HR8 := Lib.hid (HR7.out.next hB8)
          have X7b := Lib.hid (X7.out.via hB8)
          have I7b := Lib.hid (I7.out.via hB8)
          clear hI8 hbq hal hB8 d2
          have CD1 := Lib.hid (adyad_any I8.out I7b.out op)
          have CD2 := Lib.hid (fun w1 (hb : Below W8.heap.size W8 w1) => adyad_any (I7b.out.via hb) (I8.out.via hb) op)
          simp only [Ar.v] at CD1 CD2
          obtain ⟨e9, HE9⟩ : ∃ z, Hid (adyE op [] [x] tl it = z) := ⟨_, rfl⟩
          obtain ⟨s9, HS9⟩ : ∃ z, Hid (adyS op [] [x] tl it = z) := ⟨_, rfl⟩
          obtain ⟨a9, HA9⟩ : ∃ z, Hid (adyA op [] [x] tl it = z) := ⟨_, rfl⟩
          rw [HE9.out, HS9.out, HA9.out] at CD1
          have hxx : (zs.take n).getD j 0 = x := by rw [← HX.out]; simp [List.getD, List.getElem?_take, hlt]
          have HIE : Hid (ibE op false (zs.take n) tl b m j = e9) := by show ibE _ _ _ _ _ _ _ = _; rw [ibE, hxx, HIT.out]; exact HE9.out
          have HIA : Hid (ibA op false (zs.take n) tl b m j = a9) := by show ibA _ _ _ _ _ _ _ = _; rw [ibA, hxx, HIT.out]; exact HA9.out
          clear hxx
          have g1 : (w8.alloc (.cells #[.slice sa8 sn8 sc8, .slice aa8 an8 ac8] 55)).cell? ⟨w7.heap.size, 0, none⟩ = some (.slice sa7 sn7 sc7) := by rw [HW8.out]; exact X7b.out.c0
          have g2 : (w8.alloc (.cells #[.slice sa8 sn8 sc8, .slice aa8 an8 ac8] 55)).cell? ⟨w7.heap.size, 1, none⟩ = some (.slice aa7 an7 ac7) := by rw [HW8.out]; exact X7b.out.c1
          go_wp2_with fail
          rw [HW8.out]
          refine CD1.out.mono ?_; rintro e w9 ⟨⟨sa9, sn9, sc9, aa9, an9, ac9, s9', a9'⟩, rfl, hI9, hs9, ha9, -, hbq⟩
          simp only at hs9 ha9
          have hs9' := hs9.symm
          have ha9' := ha9.symm
          subst hs9' ha9'
          simp only [Ar.v]
          obtain ⟨W9, HW9⟩ : ∃ z, Hid (w9.alloc (.cells #[.slice sa9 sn9 sc9, .slice aa9 an9 ac9] 55) = z) := ⟨_, rfl⟩
          have hal : Below w9.heap.size w9 W9 := by rw [← HW9.out]; exact abal _ _
          have X9 : Hid (BoxA W9 w9.heap.size (.slice sa9 sn9 sc9) (.slice aa9 an9 ac9)) := by rw [← HW9.out]; exact BoxA.new _ _ _ _
          have I9 := Lib.hid (hI9.via hal)
          have HBW := Lib.hid hbq
          have hB9 : Below W8.heap.size W8 W9 := abvia hbq hal
          have HC9 := Lib.hid (abvia HC8.out hB9)
          have HR9 := Lib.hid (HR8.out.next hB9)
          have HB9 := Lib.hid hB9
          have S9 : Hid (W9.heap.size = w9.heap.size + 1) := by show _ = _; rw [← HW9.out]; simp
          obtain ⟨i0, hi, hz0, hz1, hz2⟩ := info_parts (P := Try.prog) (e := 2) (z := .int .i64 0) (size := 1) (bytes := 8) (by kernel_rfl)
          have hL : L ≤ 4096 := by
            have h1 := HR.out.own.1
            rw [List.length_map] at h1
            have h2 := flat_len (ibA op false (zs.take n) tl b m) n m (fun i hi => ibA_len false (HP3.out i hi) HR0.out HP2.out) j hj
            have h3 : j * m ≤ n * m := Nat.mul_le_mul_right _ hj
            omega
          have hla : an9 ≤ 4096 := by
            have h1 := I9.out.ats.len
            simp only at h1
            have h2 := ibA_len (ns := zs.take n) false (HP3.out j hlt) HR0.out HP2.out
            rw [HIA.out] at h2
            have h3 : 1 * m ≤ n * m := Nat.mul_le_mul_right _ (by omega)
            omega
          clear hI9 hbq hal hB9 g1 g2
          have g1 : (w9.alloc (.cells #[.slice sa9 sn9 sc9, .slice aa9 an9 ac9] 55)).cell? ⟨wo.heap.size, 1, none⟩ = some (.slice co L c) := by rw [HW9.out]; exact HR9.out.box.c1
          have HO : Hid ((w9.alloc (.cells #[.slice sa9 sn9 sc9, .slice aa9 an9 ac9] 55)).ownsRow (wo.heap.size + 1) 2 1 (.slice co L c) L (((List.range j).flatMap (ibA op false (zs.take n) tl b m)).map (Value.int .i64))) := by rw [HW9.out]; exact HR9.out.own
          have HLZ : Hid (Ls (w9.alloc (.cells #[.slice sa9 sn9 sc9, .slice aa9 an9 ac9] 55)) aa9 an9 ac9 a9) := by rw [HW9.out]; exact I9.out.ats
          have hsz : L + an9 ≤ 1000000 := by omega
          have hbs : wo.heap.size + 1 ≤ (w9.alloc (.cells #[.slice sa9 sn9 sc9, .slice aa9 an9 ac9] 55)).heap.size := by rw [HW9.out]; exact HR9.out.box.lt
          go_wp2_with (at_builtin; refine wpList_append_ls _ rfl _ _ 50 rfl (wo.heap.size + 1) 2 i0 Try.underlying50 hi hz0 hz1 hz2 _ L ((List.range j).flatMap (ibA op false (zs.take n) tl b m)) rfl HO.out rfl HLZ.out hsz hbs ?_)
          intro v' w10 hown hgrow
          obtain ⟨ao', c', rfl⟩ := own_form hown
          rw [HW9.out] at hgrow hbs
          have hB10 : Below (wo.heap.size + 1) W9 w10 := (Below.refl _ _).grown hgrow hbs (by intro g hg; exact (own_block HO.out hg).1)
          have HG2 : Hid (WantI wo (w10.setCell ⟨wo.heap.size, 1, none⟩ (.slice ao' (L + an9) c')) wo.heap.size (.slice (some ⟨ob, fb1, none⟩) tn tc) ao' (L + an9) c' ((List.range (j + 1)).flatMap (ibA op false (zs.take n) tl b m))) := by
            refine HR9.out.grow (Below.refl _ _) hB10 ?_
            rw [flat_snoc, HIA.out, List.map_append]
            exact hown
          have HF1 : Hid (firE ((List.range (j + 1)).map (ibE op false (zs.take n) tl b m)) = e9) := by show _ = _; rw [fst_step, if_pos HF0.out, HIE.out]
          obtain ⟨q0', q1', q2', q3', q4'⟩ := HR9.out.box.below hB10 (Nat.lt_succ_self _)
          clear hown hgrow hsz hbs hB10 g1
          go_wp2
          go_roundw
          case rel => (repeat apply Exists.intro); exact ⟨⟨j + 1, e9, ao', L + an9, c', by omega, rfl, by go_num, HF1, HG2⟩, rfl⟩
          case measure => simp [RowKit.intOf]; omega
        · have HX4 := Lib.hid (fun w1 (hb : Below wo.heap.size wo w1) => X4.out.via (abvia HVR.out hb))
          have HL4 : Hid (L ≤ 1000000) := by
            show _ ≤ _
            have h1 := HR.out.own.1
            rw [List.length_map] at h1
            have h2 := flat_len (ibA op false (zs.take n) tl b m) n m (fun i hi => ibA_len false (HP3.out i hi) HR0.out HP2.out) j hj
            have h3 : j * m ≤ n * m := Nat.mul_le_mul_right _ hj
            omega
          have HRZ : Hid (∀ i, -9223372036854775808 ≤ ((List.range j).flatMap (ibA op false (zs.take n) tl b m)).getD i 0 ∧ ((List.range j).flatMap (ibA op false (zs.take n) tl b m)).getD i 0 ≤ 9223372036854775807) := by
            refine rng_mem fun x hx => ?_
            obtain ⟨i, -, hx2⟩ := List.mem_flatMap.1 hx
            exact bA_rng false (rng_one ((IN.out.take hnn).rng i)) (itemA_rng HRB.out i m) x hx2
          have HGQ := Lib.hid (HG.out false)
          have CD1 := Lib.hid (fun w1 (hb : Below wo.heap.size wo w1) => adyad_any (I4.out.via (abvia HVR.out hb)) (IY.out.via (abvia HVA.out hb)) op)
          simp only [Ar.v] at CD1
          obtain ⟨d1, HD1⟩ : ∃ z, Hid (adyE op [(n : Int)] (zs.take n) ((n : Int) :: tl) b = z) := ⟨_, rfl⟩
          obtain ⟨d2, HD2⟩ : ∃ z, Hid (adyS op [(n : Int)] (zs.take n) ((n : Int) :: tl) b = z) := ⟨_, rfl⟩
          obtain ⟨d3, HD3⟩ : ∃ z, Hid (adyA op [(n : Int)] (zs.take n) ((n : Int) :: tl) b = z) := ⟨_, rfl⟩
          rw [HD1.out, HD2.out, HD3.out] at CD1
          have HGE : Hid (bE op false [(n : Int)] (zs.take n) ((n : Int) :: tl) b = d1 ∧ bS op false [(n : Int)] (zs.take n) ((n : Int) :: tl) b = d2 ∧ bA op false [(n : Int)] (zs.take n) ((n : Int) :: tl) b = d3) := ⟨HD1.out, HD2.out, HD3.out⟩
          have HGZ := HGQ.out
          obtain ⟨r1, r2, r3⟩ := HGE.out
          rw [r1, r2, r3] at HGZ
          have HGF := Lib.hid HGZ
          clear HGZ r1 r2 r3
          have HEND : Hid (∀ w1 : World, Below wo.heap.size wo w1 → Below W4.heap.size W4 w1) := fun w1 hb => abvia HVR.out hb
          have hcase : (fv = 0 ∧ j = n) ∨ (fv ≠ 0 ∧ j = n) ∨ (fv ≠ 0 ∧ (j : Int) < n) := by omega
          rcases hcase with ⟨hfv, hjn⟩ | ⟨hfv, hjn⟩ | ⟨hfv, hjn⟩
          · subst hfv
            have hge : (n : Int) ≤ j := by omega
            have HWB : Hid (Below wo.heap.size wo wr) :=
              HR.out.below
            have HBX : Hid (BoxA wr wo.heap.size (.slice (some ⟨ob, fb1, none⟩) tn tc) (.slice co L c)) :=
              HR.out.box
            have HWA : Hid (Ar.Is ⟨some ⟨ob, fb1, none⟩, tn, tc, co, L, c, (n : Int) :: tl, (List.range n).flatMap (ibA op false (zs.take n) tl b m)⟩ wr) := by
              have h := HR.out.arr ((IY.out.via (abvia HVA.out HR.out.below)).shp) HL4.out HRZ.out
              subst hjn; exact h
            obtain ⟨r1, r2, r3⟩ := HGF.out
            have r0 := HF0.out
            rw [hjn] at r0
            rw [r0] at r1
            obtain ⟨r4, r5⟩ := r2 r1
            clear r0 r2 r3 hgo
            obtain ⟨WR, HWR⟩ : ∃ z, Hid (wr = z) := ⟨_, rfl⟩
            rw [HWR.out] at HWB HBX HWA
            obtain ⟨k5, k6, -, -, -⟩ := HX4.out WR HWB.out
            obtain ⟨y5, y6, -, -, -⟩ := Y1.out.via (abvia HVA.out HWB.out)
            rw [← HWR.out] at k5 k6 y5 y6
            go_wp2_with fail
            have hwr2 := HWR.out
            subst hwr2
            refine (CD1.out _ HWB.out).mono ?_; rintro e w12 ⟨⟨sa12, sn12, sc12, aa12, an12, ac12, s12, a12⟩, rfl, hI12, hs12, ha12, hO12, hbq⟩
            simp only at hs12 ha12
            have hs12' := hs12.symm
            have ha12' := ha12.symm
            subst hs12' ha12'
            simp only [Ar.v]
            obtain ⟨WR, HWR⟩ : ∃ z, Hid (wr = z) := ⟨_, rfl⟩
            rw [HWR.out] at HWB HBX HWA hbq
            obtain ⟨W12, HW12⟩ : ∃ z, Hid (w12.alloc (.cells #[.slice sa12 sn12 sc12, .slice aa12 an12 ac12] 55) = z) := ⟨_, rfl⟩
            have hal : Below w12.heap.size w12 W12 := by rw [← HW12.out]; exact abal _ _
            have X12 : Hid (BoxA W12 w12.heap.size (.slice sa12 sn12 sc12) (.slice aa12 an12 ac12)) := by show BoxA _ _ _ _; rw [← HW12.out]; exact BoxA.new _ _ _ _
            have HC12 : Hid (Below WR.heap.size WR W12) := abvia hbq hal
            have HQ12 := Lib.hid hbq.size
            have I12 := Lib.hid (hI12.via hal)
            clear hI12 hO12 hal hbq k0 k1 k2 k3 k4 k5 k6 y0 y1 y5 y6
            have g1 : (w12.alloc (.cells #[.slice sa12 sn12 sc12, .slice aa12 an12 ac12] 55)).cell? ⟨wo.heap.size, 0, none⟩ = some (.slice (some ⟨ob, fb1, none⟩) tn tc) := by rw [HW12.out]; exact (HBX.out.via HC12.out).c0
            have g2 : (w12.alloc (.cells #[.slice sa12 sn12 sc12, .slice aa12 an12 ac12] 55)).cell? ⟨wo.heap.size, 1, none⟩ = some (.slice co L c) := by rw [HW12.out]; exact (HBX.out.via HC12.out).c1
            have CE := Lib.hid (eq_any (w := W12) I12.out (HWA.out.via HC12.out))
            simp only [Ar.v] at CE
            rw [show decide (d2 = (n : Int) :: tl ∧ d3 = ((List.range n).flatMap (ibA op false (zs.take n) tl b m))) = true by rw [decide_eq_true_eq]; exact ⟨r4, r5⟩] at CE
            have r1' := r1.symm
            subst r1'
            clear r1 r4 r5
            go_wp2_with fail
            rw [HW12.out]
            refine CE.out.mono ?_; rintro e w13 ⟨rfl, hbq⟩
            have HVZ := Lib.hid (HEND.out _ (abvia HWB.out (abvia HC12.out hbq)))
            clear hbq g1 g2
            go_wp2
            go_roundw
            case rel => exact ⟨1, by omega, rfl, HVZ⟩
            case measure => simp [RowKit.intOf]
          · have hf1 : (fv == 0) = false := by simpa using hfv
            have hf2 : (fv != 0) = true := by simpa using hfv
            have hge : (n : Int) ≤ j := by omega
            have HWB : Hid (Below wo.heap.size wo ((wr.setCell ⟨wo.heap.size, 0, none⟩ (.slice none 0 0)).setCell ⟨wo.heap.size, 1, none⟩ (.slice none 0 0))) :=
              (HR.out.below.setCell (Nat.le_refl _) _).setCell (Nat.le_refl _) _
            have HBX : Hid (BoxA ((wr.setCell ⟨wo.heap.size, 0, none⟩ (.slice none 0 0)).setCell ⟨wo.heap.size, 1, none⟩ (.slice none 0 0)) wo.heap.size (.slice none 0 0) (.slice none 0 0)) :=
              HR.out.box.set _ _
            have HWA : Hid (Ar.Is ⟨none, 0, 0, none, 0, 0, [], []⟩ ((wr.setCell ⟨wo.heap.size, 0, none⟩ (.slice none 0 0)).setCell ⟨wo.heap.size, 1, none⟩ (.slice none 0 0))) := by
              exact Ar.is_nil _
            obtain ⟨r1, r2, r3⟩ := HGF.out
            have r0 := fst_stop (ibE op false (zs.take n) tl b m) hj (by rw [HF0.out]; exact hfv)
            rw [HF0.out] at r0
            rw [r0] at r1
            obtain ⟨r4, r5⟩ := r3 (by rw [r1]; exact hfv)
            clear r0 r2 r3 hgo
            obtain ⟨WR, HWR⟩ : ∃ z, Hid (((wr.setCell ⟨wo.heap.size, 0, none⟩ (.slice none 0 0)).setCell ⟨wo.heap.size, 1, none⟩ (.slice none 0 0)) = z) := ⟨_, rfl⟩
            rw [HWR.out] at HWB HBX HWA
            obtain ⟨k5, k6, -, -, -⟩ := HX4.out WR HWB.out
            obtain ⟨y5, y6, -, -, -⟩ := Y1.out.via (abvia HVA.out HWB.out)
            rw [← HWR.out] at k5 k6 y5 y6
            go_wp2_with fail
            rw [HWR.out]
            refine (CD1.out _ HWB.out).mono ?_; rintro e w12 ⟨⟨sa12, sn12, sc12, aa12, an12, ac12, s12, a12⟩, rfl, hI12, hs12, ha12, hO12, hbq⟩
            simp only at hs12 ha12
            have hs12' := hs12.symm
            have ha12' := ha12.symm
            subst hs12' ha12'
            simp only [Ar.v]
            obtain ⟨W12, HW12⟩ : ∃ z, Hid (w12.alloc (.cells #[.slice sa12 sn12 sc12, .slice aa12 an12 ac12] 55) = z) := ⟨_, rfl⟩
            have hal : Below w12.heap.size w12 W12 := by rw [← HW12.out]; exact abal _ _
            have X12 : Hid (BoxA W12 w12.heap.size (.slice sa12 sn12 sc12) (.slice aa12 an12 ac12)) := by show BoxA _ _ _ _; rw [← HW12.out]; exact BoxA.new _ _ _ _
            have HC12 : Hid (Below WR.heap.size WR W12) := abvia hbq hal
            have HQ12 := Lib.hid hbq.size
            have I12 := Lib.hid (hI12.via hal)
            clear hI12 hO12 hal hbq k0 k1 k2 k3 k4 k5 k6 y0 y1 y5 y6
            have g1 : (w12.alloc (.cells #[.slice sa12 sn12 sc12, .slice aa12 an12 ac12] 55)).cell? ⟨wo.heap.size, 0, none⟩ = some (.slice none 0 0) := by rw [HW12.out]; exact (HBX.out.via HC12.out).c0
            have g2 : (w12.alloc (.cells #[.slice sa12 sn12 sc12, .slice aa12 an12 ac12] 55)).cell? ⟨wo.heap.size, 1, none⟩ = some (.slice none 0 0) := by rw [HW12.out]; exact (HBX.out.via HC12.out).c1
            have CE := Lib.hid (eq_any (w := W12) I12.out (HWA.out.via HC12.out))
            simp only [Ar.v] at CE
            rw [show decide (d2 = [] ∧ d3 = ([] : List Int)) = true by rw [decide_eq_true_eq]; exact ⟨r4, r5⟩] at CE
            have r1' := r1.symm
            subst r1'
            clear r1 r4 r5
            go_wp2_with fail
            rw [HW12.out]
            refine CE.out.mono ?_; rintro e w13 ⟨rfl, hbq⟩
            have HVZ := Lib.hid (HEND.out _ (abvia HWB.out (abvia HC12.out hbq)))
            clear hbq g1 g2
            go_wp2
            go_roundw
            case rel => exact ⟨1, by omega, rfl, HVZ⟩
            case measure => simp [RowKit.intOf]
          · have hf1 : (fv == 0) = false := by simpa using hfv
            have hf2 : (fv != 0) = true := by simpa using hfv
            have HWB : Hid (Below wo.heap.size wo ((wr.setCell ⟨wo.heap.size, 0, none⟩ (.slice none 0 0)).setCell ⟨wo.heap.size, 1, none⟩ (.slice none 0 0))) :=
              (HR.out.below.setCell (Nat.le_refl _) _).setCell (Nat.le_refl _) _
            have HBX : Hid (BoxA ((wr.setCell ⟨wo.heap.size, 0, none⟩ (.slice none 0 0)).setCell ⟨wo.heap.size, 1, none⟩ (.slice none 0 0)) wo.heap.size (.slice none 0 0) (.slice none 0 0)) :=
              HR.out.box.set _ _
            have HWA : Hid (Ar.Is ⟨none, 0, 0, none, 0, 0, [], []⟩ ((wr.setCell ⟨wo.heap.size, 0, none⟩ (.slice none 0 0)).setCell ⟨wo.heap.size, 1, none⟩ (.slice none 0 0))) := by
              exact Ar.is_nil _
            obtain ⟨r1, r2, r3⟩ := HGF.out
            have r0 := fst_stop (ibE op false (zs.take n) tl b m) hj (by rw [HF0.out]; exact hfv)
            rw [HF0.out] at r0
            rw [r0] at r1
            obtain ⟨r4, r5⟩ := r3 (by rw [r1]; exact hfv)
            clear r0 r2 r3 hgo
            obtain ⟨WR, HWR⟩ : ∃ z, Hid (((wr.setCell ⟨wo.heap.size, 0, none⟩ (.slice none 0 0)).setCell ⟨wo.heap.size, 1, none⟩ (.slice none 0 0)) = z) := ⟨_, rfl⟩
            rw [HWR.out] at HWB HBX HWA
            obtain ⟨k5, k6, -, -, -⟩ := HX4.out WR HWB.out
            obtain ⟨y5, y6, -, -, -⟩ := Y1.out.via (abvia HVA.out HWB.out)
            rw [← HWR.out] at k5 k6 y5 y6
            go_wp2_with fail
            rw [HWR.out]
            refine (CD1.out _ HWB.out).mono ?_; rintro e w12 ⟨⟨sa12, sn12, sc12, aa12, an12, ac12, s12, a12⟩, rfl, hI12, hs12, ha12, hO12, hbq⟩
            simp only at hs12 ha12
            have hs12' := hs12.symm
            have ha12' := ha12.symm
            subst hs12' ha12'
            simp only [Ar.v]
            obtain ⟨W12, HW12⟩ : ∃ z, Hid (w12.alloc (.cells #[.slice sa12 sn12 sc12, .slice aa12 an12 ac12] 55) = z) := ⟨_, rfl⟩
            have hal : Below w12.heap.size w12 W12 := by rw [← HW12.out]; exact abal _ _
            have X12 : Hid (BoxA W12 w12.heap.size (.slice sa12 sn12 sc12) (.slice aa12 an12 ac12)) := by show BoxA _ _ _ _; rw [← HW12.out]; exact BoxA.new _ _ _ _
            have HC12 : Hid (Below WR.heap.size WR W12) := abvia hbq hal
            have HQ12 := Lib.hid hbq.size
            have I12 := Lib.hid (hI12.via hal)
            clear hI12 hO12 hal hbq k0 k1 k2 k3 k4 k5 k6 y0 y1 y5 y6
            have g1 : (w12.alloc (.cells #[.slice sa12 sn12 sc12, .slice aa12 an12 ac12] 55)).cell? ⟨wo.heap.size, 0, none⟩ = some (.slice none 0 0) := by rw [HW12.out]; exact (HBX.out.via HC12.out).c0
            have g2 : (w12.alloc (.cells #[.slice sa12 sn12 sc12, .slice aa12 an12 ac12] 55)).cell? ⟨wo.heap.size, 1, none⟩ = some (.slice none 0 0) := by rw [HW12.out]; exact (HBX.out.via HC12.out).c1
            have CE := Lib.hid (eq_any (w := W12) I12.out (HWA.out.via HC12.out))
            simp only [Ar.v] at CE
            rw [show decide (d2 = [] ∧ d3 = ([] : List Int)) = true by rw [decide_eq_true_eq]; exact ⟨r4, r5⟩] at CE
            have r1' := r1.symm
            subst r1'
            clear r1 r4 r5
            go_wp2_with fail
            rw [HW12.out]
            refine CE.out.mono ?_; rintro e w13 ⟨rfl, hbq⟩
            have HVZ := Lib.hid (HEND.out _ (abvia HWB.out (abvia HC12.out hbq)))
            clear hbq g1 g2
            go_wp2
            go_roundw
            case rel => exact ⟨1, by omega, rfl, HVZ⟩
            case measure => simp [RowKit.intOf]
    · have HVA := Lib.hid (abvia HV4.out HVR.out)
      try clear y0 y1
      obtain ⟨y0, y1, -, -, -⟩ := Y1.out.via HVA.out
      clear hk hk2
      obtain ⟨wo, hwo⟩ : ∃ wo : World, wo = wr := ⟨_, rfl⟩
      subst hwo
      obtain ⟨W6, HW6⟩ : ∃ z, Hid (wo.alloc (.cells #[.slice (some ⟨ob, fb1, none⟩) tn tc, .slice none 0 0] 55) = z) := ⟨_, rfl⟩
      have hwi : WantI wo W6 wo.heap.size (.slice (some ⟨ob, fb1, none⟩) tn tc) none 0 0 [] := by rw [← HW6.out]; exact WantI.new _ _
      have HWI := Lib.hid hwi
      obtain ⟨k0, k1, k2, k3, k4⟩ := hwi.box
      clear hwi
      go_wp2_with fail
      rw [HW6.out]
      clear y0 y1
      go_loopw [11, 12] (fun f i wr => ∃ (j : Nat) (fv : Int) (co : Option Addr) (L c : Nat), j ≤ n ∧ f = .int .i64 fv ∧ i = .int .i64 j ∧ Hid (firE ((List.range j).map (ibE op true (zs.take n) tl b m)) = fv) ∧ Hid (WantI wo wr wo.heap.size (.slice (some ⟨ob, fb1, none⟩) tn tc) co L c ((List.range j).flatMap (ibA op true (zs.take n) tl b m)))) (fun f i _ => n - (RowKit.intOf i).toNat)
      case atStart => exact ⟨0, 0, none, 0, 0, Nat.zero_le _, rfl, rfl, rfl, HWI⟩
      case round =>
        obtain ⟨j, fv, co, L, c, hj, rfl, rfl, HF0, HR⟩ := hrel
        clear k0 k1 k2 k3 k4
        obtain ⟨k0, k1, k2, k3, k4⟩ := HR.out.box
        have HVB := Lib.hid (abvia HVA.out HR.out.below)
        try clear y0 y1
        obtain ⟨y0, y1, -, -, -⟩ := Y1.out.via HVB.out
        by_cases hgo : j < n ∧ fv = 0
        · obtain ⟨hlt, rfl⟩ := hgo
          have hlt' : (j : Int) < n := by omega
          have hjn : (j : Int) < nn := by omega
          have CJ := Lib.hid (CI.out wr HVB.out j hlt)
          obtain ⟨it, HIT⟩ : ∃ z, Hid (itemA b j m = z) := ⟨_, rfl⟩
          rw [HIT.out] at CJ
          obtain ⟨on, fn1, rfl, hcn⟩ := IN.out.at (show 0 < nn by omega)
          have hcn1 := hcn j (by omega)
          clear hcn
          obtain ⟨x, HX⟩ : ∃ z, Hid (zs.getD j 0 = z) := ⟨_, rfl⟩
          rw [HX.out] at hcn1
          have HXR : Hid (-9223372036854775808 ≤ x ∧ x ≤ 9223372036854775807) := by show _ ∧ _; rw [← HX.out]; exact HRN.out j
          go_wp2_with fail
          refine CJ.out.mono ?_; rintro e w7 ⟨⟨sa7, sn7, sc7, aa7, an7, ac7, s7, a7⟩, rfl, hI7, hs7, ha7, -, hbq⟩
          simp only at hs7 ha7
          have hs7' := hs7.symm
          have ha7' := ha7.symm
          subst hs7' ha7'
          simp only [Ar.v]
          obtain ⟨W7, HW7⟩ : ∃ z, Hid (w7.alloc (.cells #[.slice sa7 sn7 sc7, .slice aa7 an7 ac7] 55) = z) := ⟨_, rfl⟩
          have hal : Below w7.heap.size w7 W7 := by rw [← HW7.out]; exact abal _ _
          have X7 : Hid (BoxA W7 w7.heap.size (.slice sa7 sn7 sc7) (.slice aa7 an7 ac7)) := by rw [← HW7.out]; exact BoxA.new _ _ _ _
          have I7 := Lib.hid (hI7.via hal)
          have HC7 : Hid (Below wr.heap.size wr W7) := abvia hbq hal
          have HR7 := Lib.hid (HR.out.next HC7.out)
          have HV7 := Lib.hid (abvia HVA.out HR7.out.below)
          have d2 : (w7.alloc (.cells #[.slice sa7 sn7 sc7, .slice aa7 an7 ac7] 55)).cell? ⟨on, fn1 + j, none⟩ = some (.int .i64 x) := by
            rw [HW7.out]; exact (HV7.out.cell (p := ⟨on, fn1 + j, none⟩) (World.block_lt_of_cell? W _ hcn1)).trans hcn1
          clear hI7 hbq hal k0 k1 k2 k3 k4 y0 y1
          go_wp2_with fail
          rw [HW7.out]
          refine (scalar_any x W7 HXR.out).mono ?_; rintro e w8 ⟨⟨sa8, sn8, sc8, aa8, an8, ac8, s8, a8⟩, rfl, hI8, hs8, ha8, -, hbq⟩
          simp only at hs8 ha8
          subst hs8 ha8
          simp only [Ar.v]
          obtain ⟨W8, HW8⟩ : ∃ z, Hid (w8.alloc (.cells #[.slice sa8 sn8 sc8, .slice aa8 an8 ac8] 55) = z) := ⟨_, rfl⟩
          have hal : Below w8.heap.size w8 W8 := by rw [← HW8.out]; exact abal _ _
          have X8 : Hid (BoxA W8 w8.heap.size (.slice sa8 sn8 sc8) (.slice aa8 an8 ac8)) := by rw [← HW8.out]; exact BoxA.new _ _ _ _
          have I8 := Lib.hid (hI8.via hal)
          have hB8 : Below W7.heap.size W7 W8 := abvia hbq hal
          have HC8 := Lib.hid (abvia HC7.out hB8)
          have HR8 := Lib.hid (HR7.out.next hB8)
          have X7b := Lib.hid (X7.out.via hB8)
          have I7b := Lib.hid (I7.out.via hB8)
          clear hI8 hbq hal hB8 d2
          have CD1 := Lib.hid (adyad_any I8.out I7b.out op)
          have CD2 := Lib.hid (fun w1 (hb : Below W8.heap.size W8 w1) => adyad_any (I7b.out.via hb) (I8.out.via hb) op)
          simp only [Ar.v] at CD1 CD2
          obtain ⟨e9, HE9⟩ : ∃ z, Hid (adyE op [] [x] tl it = z) := ⟨_, rfl⟩
          obtain ⟨s9, HS9⟩ : ∃ z, Hid (adyS op [] [x] tl it = z) := ⟨_, rfl⟩
          obtain ⟨a9, HA9⟩ : ∃ z, Hid (adyA op [] [x] tl it = z) := ⟨_, rfl⟩
          rw [HE9.out, HS9.out, HA9.out] at CD1
          obtain ⟨e10, HE10⟩ : ∃ z, Hid (adyE op tl it [] [x] = z) := ⟨_, rfl⟩
          obtain ⟨s10, HS10⟩ : ∃ z, Hid (adyS op tl it [] [x] = z) := ⟨_, rfl⟩
          obtain ⟨a10, HA10⟩ : ∃ z, Hid (adyA op tl it [] [x] = z) := ⟨_, rfl⟩
          rw [HE10.out, HS10.out, HA10.out] at CD2
          have hxx : (zs.take n).getD j 0 = x := by rw [← HX.out]; simp [List.getD, List.getElem?_take, hlt]
          have HIE : Hid (ibE op true (zs.take n) tl b m j = e10) := by show ibE _ _ _ _ _ _ _ = _; rw [ibE, hxx, HIT.out]; exact HE10.out
          have HIA : Hid (ibA op true (zs.take n) tl b m j = a10) := by show ibA _ _ _ _ _ _ _ = _; rw [ibA, hxx, HIT.out]; exact HA10.out
          clear hxx
          have g1 : (w8.alloc (.cells #[.slice sa8 sn8 sc8, .slice aa8 an8 ac8] 55)).cell? ⟨w7.heap.size, 0, none⟩ = some (.slice sa7 sn7 sc7) := by rw [HW8.out]; exact X7b.out.c0
          have g2 : (w8.alloc (.cells #[.slice sa8 sn8 sc8, .slice aa8 an8 ac8] 55)).cell? ⟨w7.heap.size, 1, none⟩ = some (.slice aa7 an7 ac7) := by rw [HW8.out]; exact X7b.out.c1
          go_wp2_with fail
          rw [HW8.out]
          refine CD1.out.mono ?_; rintro e w9 ⟨⟨sa9, sn9, sc9, aa9, an9, ac9, s9', a9'⟩, rfl, hI9, hs9, ha9, -, hbq⟩
          simp only at hs9 ha9
          have hs9' := hs9.symm
          have ha9' := ha9.symm
          subst hs9' ha9'
          simp only [Ar.v]
          obtain ⟨W9, HW9⟩ : ∃ z, Hid (w9.alloc (.cells #[.slice sa9 sn9 sc9, .slice aa9 an9 ac9] 55) = z) := ⟨_, rfl⟩
          have hal : Below w9.heap.size w9 W9 := by rw [← HW9.out]; exact abal _ _
          have X9 : Hid (BoxA W9 w9.heap.size (.slice sa9 sn9 sc9) (.slice aa9 an9 ac9)) := by rw [← HW9.out]; exact BoxA.new _ _ _ _
          have I9 := Lib.hid (hI9.via hal)
          have HBW := Lib.hid hbq
          have hB9 : Below W8.heap.size W8 W9 := abvia hbq hal
          have HC9 := Lib.hid (abvia HC8.out hB9)
          have HR9 := Lib.hid (HR8.out.next hB9)
          have HB9 := Lib.hid hB9
          have S9 : Hid (W9.heap.size = w9.heap.size + 1) := by show _ = _; rw [← HW9.out]; simp
          obtain ⟨i0, hi, hz0, hz1, hz2⟩ := info_parts (P := Try.prog) (e := 2) (z := .int .i64 0) (size := 1) (bytes := 8) (by kernel_rfl)
          have hL : L ≤ 4096 := by
            have h1 := HR.out.own.1
            rw [List.length_map] at h1
            have h2 := flat_len (ibA op true (zs.take n) tl b m) n m (fun i hi => ibA_len true (HP3.out i hi) HR0.out HP2.out) j hj
            have h3 : j * m ≤ n * m := Nat.mul_le_mul_right _ hj
            omega
          clear hI9 hbq hal hB9 g1 g2
          have g1 : (w9.alloc (.cells #[.slice sa9 sn9 sc9, .slice aa9 an9 ac9] 55)).cell? ⟨w7.heap.size, 0, none⟩ = some (.slice sa7 sn7 sc7) := by rw [HW9.out]; exact (X7b.out.via HB9.out).c0
          have g2 : (w9.alloc (.cells #[.slice sa9 sn9 sc9, .slice aa9 an9 ac9] 55)).cell? ⟨w7.heap.size, 1, none⟩ = some (.slice aa7 an7 ac7) := by rw [HW9.out]; exact (X7b.out.via HB9.out).c1
          have g3 : (w9.alloc (.cells #[.slice sa9 sn9 sc9, .slice aa9 an9 ac9] 55)).cell? ⟨w8.heap.size, 0, none⟩ = some (.slice sa8 sn8 sc8) := by rw [HW9.out]; exact (X8.out.via HB9.out).c0
          have g4 : (w9.alloc (.cells #[.slice sa9 sn9 sc9, .slice aa9 an9 ac9] 55)).cell? ⟨w8.heap.size, 1, none⟩ = some (.slice aa8 an8 ac8) := by rw [HW9.out]; exact (X8.out.via HB9.out).c1
          go_wp2_with fail
          rw [HW9.out]
          refine (CD2.out W9 HB9.out).mono ?_; rintro e w10 ⟨⟨sa10, sn10, sc10, aa10, an10, ac10, s10', a10'⟩, rfl, hI10, hs10, ha10, hO10, hbq⟩
          simp only at hs10 ha10
          have hs10' := hs10.symm
          have ha10' := ha10.symm
          subst hs10' ha10'
          simp only [Ar.v]
          have hla : an10 ≤ 4096 := by
            have h1 := hI10.ats.len
            simp only at h1
            have h2 := ibA_len (ns := zs.take n) true (HP3.out j hlt) HR0.out HP2.out
            rw [HIA.out] at h2
            have h3 : 1 * m ≤ n * m := Nat.mul_le_mul_right _ (by omega)
            omega
          have s1 := S9.out
          have s2 := HC9.out.size
          have s3 := HC8.out.size
          have s5 : W8.heap.size ≤ w9.heap.size := by have h := HB9.out.size; have := HBW.out.size; omega
          obtain ⟨W11, HW11⟩ : ∃ z, Hid ((w10.setCell ⟨w9.heap.size, 0, none⟩ (.slice sa10 sn10 sc10)).setCell ⟨w9.heap.size, 1, none⟩ (.slice aa10 an10 ac10) = z) := ⟨_, rfl⟩
          have HC11 : Hid (Below wr.heap.size wr W11) := by
            show Below _ _ _
            rw [← HW11.out]
            exact ((abvia HC9.out hbq).setCell (by dsimp only; omega) _).setCell (by dsimp only; omega) _
          have HR11 := Lib.hid (HR.out.next HC11.out)
          have HLZ : Hid (Ls W11 aa10 an10 ac10 a10) := by
            show Ls _ _ _ _ _
            rw [← HW11.out]
            exact ls_set hI10.ats hO10.ats (by omega) _ _
          obtain ⟨k0, k1, k2, k3, k4⟩ := X9.out.via hbq
          have g5 : ((w10.setCell ⟨w9.heap.size, 0, none⟩ (.slice sa10 sn10 sc10)).setCell ⟨w9.heap.size, 1, none⟩ (.slice aa10 an10 ac10)).cell? ⟨wo.heap.size, 1, none⟩ = some (.slice co L c) := by rw [HW11.out]; exact HR11.out.box.c1
          have HO : Hid (((w10.setCell ⟨w9.heap.size, 0, none⟩ (.slice sa10 sn10 sc10)).setCell ⟨w9.heap.size, 1, none⟩ (.slice aa10 an10 ac10)).ownsRow (wo.heap.size + 1) 2 1 (.slice co L c) L (((List.range j).flatMap (ibA op true (zs.take n) tl b m)).map (Value.int .i64))) := by rw [HW11.out]; exact HR11.out.own
          have HLY2 : Hid (Ls ((w10.setCell ⟨w9.heap.size, 0, none⟩ (.slice sa10 sn10 sc10)).setCell ⟨w9.heap.size, 1, none⟩ (.slice aa10 an10 ac10)) aa10 an10 ac10 a10) := by rw [HW11.out]; exact HLZ
          have hsz : L + an10 ≤ 1000000 := by omega
          have hbs : wo.heap.size + 1 ≤ ((w10.setCell ⟨w9.heap.size, 0, none⟩ (.slice sa10 sn10 sc10)).setCell ⟨w9.heap.size, 1, none⟩ (.slice aa10 an10 ac10)).heap.size := by rw [HW11.out]; exact HR11.out.box.lt
          clear hI10 hO10 hbq g1 g2 g3 g4 s1 s2 s3 s5
          go_wp2_with (at_builtin; refine wpList_append_ls _ rfl _ _ 50 rfl (wo.heap.size + 1) 2 i0 Try.underlying50 hi hz0 hz1 hz2 _ L ((List.range j).flatMap (ibA op true (zs.take n) tl b m)) rfl HO.out rfl HLY2.out hsz hbs ?_)
          intro v' w12 hown hgrow
          obtain ⟨ao', c', rfl⟩ := own_form hown
          rw [HW11.out] at hgrow hbs
          have hB12 : Below (wo.heap.size + 1) W11 w12 := (Below.refl _ _).grown hgrow hbs (by intro g hg; exact (own_block HO.out hg).1)
          have HG2 : Hid (WantI wo (w12.setCell ⟨wo.heap.size, 1, none⟩ (.slice ao' (L + an10) c')) wo.heap.size (.slice (some ⟨ob, fb1, none⟩) tn tc) ao' (L + an10) c' ((List.range (j + 1)).flatMap (ibA op true (zs.take n) tl b m))) := by
            refine HR11.out.grow (Below.refl _ _) hB12 ?_
            rw [flat_snoc, HIA.out, List.map_append]
            exact hown
          have HF1 : Hid (firE ((List.range (j + 1)).map (ibE op true (zs.take n) tl b m)) = e10) := by show _ = _; rw [fst_step, if_pos HF0.out, HIE.out]
          obtain ⟨q0', q1', q2', q3', q4'⟩ := HR11.out.box.below hB12 (Nat.lt_succ_self _)
          clear hown hgrow hsz hbs hB12 g5 k0 k1 k2 k3 k4
          go_wp2
          go_roundw
          case rel => (repeat apply Exists.intro); exact ⟨⟨j + 1, e10, ao', L + an10, c', by omega, rfl, by go_num, HF1, HG2⟩, rfl⟩
          case measure => simp [RowKit.intOf]; omega
        · have HX4 := Lib.hid (fun w1 (hb : Below wo.heap.size wo w1) => X4.out.via (abvia HVR.out hb))
          have HL4 : Hid (L ≤ 1000000) := by
            show _ ≤ _
            have h1 := HR.out.own.1
            rw [List.length_map] at h1
            have h2 := flat_len (ibA op true (zs.take n) tl b m) n m (fun i hi => ibA_len true (HP3.out i hi) HR0.out HP2.out) j hj
            have h3 : j * m ≤ n * m := Nat.mul_le_mul_right _ hj
            omega
          have HRZ : Hid (∀ i, -9223372036854775808 ≤ ((List.range j).flatMap (ibA op true (zs.take n) tl b m)).getD i 0 ∧ ((List.range j).flatMap (ibA op true (zs.take n) tl b m)).getD i 0 ≤ 9223372036854775807) := by
            refine rng_mem fun x hx => ?_
            obtain ⟨i, -, hx2⟩ := List.mem_flatMap.1 hx
            exact bA_rng true (rng_one ((IN.out.take hnn).rng i)) (itemA_rng HRB.out i m) x hx2
          have HGQ := Lib.hid (HG.out true)
          have CD1 := Lib.hid (fun w1 (hb : Below wo.heap.size wo w1) => adyad_any (I4.out.via (abvia HVR.out hb)) (IY.out.via (abvia HVA.out hb)) op)
          have CD2 := Lib.hid (fun w1 (hb : Below wo.heap.size wo w1) => adyad_any (IY.out.via (abvia HVA.out hb)) (I4.out.via (abvia HVR.out hb)) op)
          simp only [Ar.v] at CD1
          simp only [Ar.v] at CD2
          obtain ⟨d1, HD1⟩ : ∃ z, Hid (adyE op [(n : Int)] (zs.take n) ((n : Int) :: tl) b = z) := ⟨_, rfl⟩
          obtain ⟨d2, HD2⟩ : ∃ z, Hid (adyS op [(n : Int)] (zs.take n) ((n : Int) :: tl) b = z) := ⟨_, rfl⟩
          obtain ⟨d3, HD3⟩ : ∃ z, Hid (adyA op [(n : Int)] (zs.take n) ((n : Int) :: tl) b = z) := ⟨_, rfl⟩
          rw [HD1.out, HD2.out, HD3.out] at CD1
          obtain ⟨f1, HF1⟩ : ∃ z, Hid (adyE op ((n : Int) :: tl) b [(n : Int)] (zs.take n) = z) := ⟨_, rfl⟩
          obtain ⟨f2, HF2⟩ : ∃ z, Hid (adyS op ((n : Int) :: tl) b [(n : Int)] (zs.take n) = z) := ⟨_, rfl⟩
          obtain ⟨f3, HF3⟩ : ∃ z, Hid (adyA op ((n : Int) :: tl) b [(n : Int)] (zs.take n) = z) := ⟨_, rfl⟩
          rw [HF1.out, HF2.out, HF3.out] at CD2
          have HGE : Hid (bE op true [(n : Int)] (zs.take n) ((n : Int) :: tl) b = f1 ∧ bS op true [(n : Int)] (zs.take n) ((n : Int) :: tl) b = f2 ∧ bA op true [(n : Int)] (zs.take n) ((n : Int) :: tl) b = f3) := ⟨HF1.out, HF2.out, HF3.out⟩
          have HGZ := HGQ.out
          obtain ⟨r1, r2, r3⟩ := HGE.out
          rw [r1, r2, r3] at HGZ
          have HGF := Lib.hid HGZ
          clear HGZ r1 r2 r3
          have HEND : Hid (∀ w1 : World, Below wo.heap.size wo w1 → Below W4.heap.size W4 w1) := fun w1 hb => abvia HVR.out hb
          have hcase : (fv = 0 ∧ j = n) ∨ (fv ≠ 0 ∧ j = n) ∨ (fv ≠ 0 ∧ (j : Int) < n) := by omega
          rcases hcase with ⟨hfv, hjn⟩ | ⟨hfv, hjn⟩ | ⟨hfv, hjn⟩
          · subst hfv
            have hge : (n : Int) ≤ j := by omega
            have HWB : Hid (Below wo.heap.size wo wr) :=
              HR.out.below
            have HBX : Hid (BoxA wr wo.heap.size (.slice (some ⟨ob, fb1, none⟩) tn tc) (.slice co L c)) :=
              HR.out.box
            have HWA : Hid (Ar.Is ⟨some ⟨ob, fb1, none⟩, tn, tc, co, L, c, (n : Int) :: tl, (List.range n).flatMap (ibA op true (zs.take n) tl b m)⟩ wr) := by
              have h := HR.out.arr ((IY.out.via (abvia HVA.out HR.out.below)).shp) HL4.out HRZ.out
              subst hjn; exact h
            obtain ⟨r1, r2, r3⟩ := HGF.out
            have r0 := HF0.out
            rw [hjn] at r0
            rw [r0] at r1
            obtain ⟨r4, r5⟩ := r2 r1
            clear r0 r2 r3 hgo
            obtain ⟨WR, HWR⟩ : ∃ z, Hid (wr = z) := ⟨_, rfl⟩
            rw [HWR.out] at HWB HBX HWA
            obtain ⟨k5, k6, -, -, -⟩ := HX4.out WR HWB.out
            obtain ⟨y5, y6, -, -, -⟩ := Y1.out.via (abvia HVA.out HWB.out)
            rw [← HWR.out] at k5 k6 y5 y6
            go_wp2_with fail
            have hwr2 := HWR.out
            subst hwr2
            refine (CD1.out _ HWB.out).mono ?_; rintro e w12 ⟨⟨sa12, sn12, sc12, aa12, an12, ac12, s12, a12⟩, rfl, hI12, hs12, ha12, hO12, hbq⟩
            simp only at hs12 ha12
            have hs12' := hs12.symm
            have ha12' := ha12.symm
            subst hs12' ha12'
            simp only [Ar.v]
            obtain ⟨WR, HWR⟩ : ∃ z, Hid (wr = z) := ⟨_, rfl⟩
            rw [HWR.out] at HWB HBX HWA hbq
            obtain ⟨W12, HW12⟩ : ∃ z, Hid (w12.alloc (.cells #[.slice sa12 sn12 sc12, .slice aa12 an12 ac12] 55) = z) := ⟨_, rfl⟩
            have hal : Below w12.heap.size w12 W12 := by rw [← HW12.out]; exact abal _ _
            have X12 : Hid (BoxA W12 w12.heap.size (.slice sa12 sn12 sc12) (.slice aa12 an12 ac12)) := by show BoxA _ _ _ _; rw [← HW12.out]; exact BoxA.new _ _ _ _
            have HC12 : Hid (Below WR.heap.size WR W12) := abvia hbq hal
            have HQ12 := Lib.hid hbq.size
            clear hI12 hO12 hal hbq k0 k1 k2 k3 k4 k5 k6 y0 y1 y5 y6
            have HV12 : Hid (Below wo.heap.size wo W12) := abvia HWB.out HC12.out
            obtain ⟨y0, y1, -, -, -⟩ := Y1.out.via (abvia HVA.out HV12.out)
            obtain ⟨k5, k6, -, -, -⟩ := HX4.out W12 HV12.out
            have g1 : (w12.alloc (.cells #[.slice sa12 sn12 sc12, .slice aa12 an12 ac12] 55)).cell? ⟨w.heap.size, 0, none⟩ = some (.slice (some ⟨ob, fb1, none⟩) tn tc) := by rw [HW12.out]; exact y0
            have g2 : (w12.alloc (.cells #[.slice sa12 sn12 sc12, .slice aa12 an12 ac12] 55)).cell? ⟨w.heap.size, 1, none⟩ = some (.slice ba bn bc) := by rw [HW12.out]; exact y1
            have g3 : (w12.alloc (.cells #[.slice sa12 sn12 sc12, .slice aa12 an12 ac12] 55)).cell? ⟨w3.heap.size + 1, 0, none⟩ = some (.slice (some ⟨w3.heap.size, 0, none⟩) 1 1) := by rw [HW12.out]; exact k5
            have g4 : (w12.alloc (.cells #[.slice sa12 sn12 sc12, .slice aa12 an12 ac12] 55)).cell? ⟨w3.heap.size + 1, 1, none⟩ = some (.slice ao n nc) := by rw [HW12.out]; exact k6
            clear y0 y1 k5 k6
            go_wp2_with fail
            rw [HW12.out]
            refine (CD2.out W12 HV12.out).mono ?_; rintro e w14 ⟨⟨sa14, sn14, sc14, aa14, an14, ac14, s14, a14⟩, rfl, hI14, hs14, ha14, hO14, hbq⟩
            simp only at hs14 ha14
            have hs14' := hs14.symm
            have ha14' := ha14.symm
            subst hs14' ha14'
            simp only [Ar.v]
            have S12 : W12.heap.size = w12.heap.size + 1 := by rw [← HW12.out]; simp
            have S13 := HQ12.out
            obtain ⟨W15, HW15⟩ : ∃ z, Hid ((w14.setCell ⟨w12.heap.size, 0, none⟩ (.slice sa14 sn14 sc14)).setCell ⟨w12.heap.size, 1, none⟩ (.slice aa14 an14 ac14) = z) := ⟨_, rfl⟩
            have HC15 : Hid (Below WR.heap.size WR W15) := by
              show Below _ _ _
              rw [← HW15.out]
              exact ((abvia HC12.out hbq).setCell (by dsimp only; omega) _).setCell (by dsimp only; omega) _
            have I15 : Hid (Ar.Is ⟨sa14, sn14, sc14, aa14, an14, ac14, f2, f3⟩ W15) := by
              show Ar.Is _ _
              rw [← HW15.out]
              exact ⟨ls_set hI14.shp hO14.shp (by omega) _ _, ls_set hI14.ats hO14.ats (by omega) _ _⟩
            obtain ⟨q0', q1', q2', q3', q4'⟩ := X12.out.via hbq
            have g5 : ((w14.setCell ⟨w12.heap.size, 0, none⟩ (.slice sa14 sn14 sc14)).setCell ⟨w12.heap.size, 1, none⟩ (.slice aa14 an14 ac14)).cell? ⟨wo.heap.size, 0, none⟩ = some (.slice (some ⟨ob, fb1, none⟩) tn tc) := by rw [HW15.out]; exact (HBX.out.via HC15.out).c0
            have g6 : ((w14.setCell ⟨w12.heap.size, 0, none⟩ (.slice sa14 sn14 sc14)).setCell ⟨w12.heap.size, 1, none⟩ (.slice aa14 an14 ac14)).cell? ⟨wo.heap.size, 1, none⟩ = some (.slice co L c) := by rw [HW15.out]; exact (HBX.out.via HC15.out).c1
            have CE := Lib.hid (eq_any (w := W15) I15.out (HWA.out.via HC15.out))
            simp only [Ar.v] at CE
            rw [show decide (f2 = (n : Int) :: tl ∧ f3 = ((List.range n).flatMap (ibA op true (zs.take n) tl b m))) = true by rw [decide_eq_true_eq]; exact ⟨r4, r5⟩] at CE
            have r1' := r1.symm
            subst r1'
            clear r1 r4 r5 hI14 hO14 hbq S12 S13 g1 g2 g3 g4
            go_wp2_with fail
            rw [HW15.out]
            refine CE.out.mono ?_; rintro e w16 ⟨rfl, hbq⟩
            have HVZ := Lib.hid (HEND.out _ (abvia HWB.out (abvia HC15.out hbq)))
            clear hbq g5 g6 q0' q1' q2' q3' q4'
            go_wp2
            go_roundw
            case rel => exact ⟨2, by omega, rfl, HVZ⟩
            case measure => simp [RowKit.intOf]
          · have hf1 : (fv == 0) = false := by simpa using hfv
            have hf2 : (fv != 0) = true := by simpa using hfv
            have hge : (n : Int) ≤ j := by omega
            have HWB : Hid (Below wo.heap.size wo ((wr.setCell ⟨wo.heap.size, 0, none⟩ (.slice none 0 0)).setCell ⟨wo.heap.size, 1, none⟩ (.slice none 0 0))) :=
              (HR.out.below.setCell (Nat.le_refl _) _).setCell (Nat.le_refl _) _
            have HBX : Hid (BoxA ((wr.setCell ⟨wo.heap.size, 0, none⟩ (.slice none 0 0)).setCell ⟨wo.heap.size, 1, none⟩ (.slice none 0 0)) wo.heap.size (.slice none 0 0) (.slice none 0 0)) :=
              HR.out.box.set _ _
            have HWA : Hid (Ar.Is ⟨none, 0, 0, none, 0, 0, [], []⟩ ((wr.setCell ⟨wo.heap.size, 0, none⟩ (.slice none 0 0)).setCell ⟨wo.heap.size, 1, none⟩ (.slice none 0 0))) := by
              exact Ar.is_nil _
            obtain ⟨r1, r2, r3⟩ := HGF.out
            have r0 := fst_stop (ibE op true (zs.take n) tl b m) hj (by rw [HF0.out]; exact hfv)
            rw [HF0.out] at r0
            rw [r0] at r1
            obtain ⟨r4, r5⟩ := r3 (by rw [r1]; exact hfv)
            clear r0 r2 r3 hgo
            obtain ⟨WR, HWR⟩ : ∃ z, Hid (((wr.setCell ⟨wo.heap.size, 0, none⟩ (.slice none 0 0)).setCell ⟨wo.heap.size, 1, none⟩ (.slice none 0 0)) = z) := ⟨_, rfl⟩
            rw [HWR.out] at HWB HBX HWA
            obtain ⟨k5, k6, -, -, -⟩ := HX4.out WR HWB.out
            obtain ⟨y5, y6, -, -, -⟩ := Y1.out.via (abvia HVA.out HWB.out)
            rw [← HWR.out] at k5 k6 y5 y6
            go_wp2_with fail
            rw [HWR.out]
            refine (CD1.out _ HWB.out).mono ?_; rintro e w12 ⟨⟨sa12, sn12, sc12, aa12, an12, ac12, s12, a12⟩, rfl, hI12, hs12, ha12, hO12, hbq⟩
            simp only at hs12 ha12
            have hs12' := hs12.symm
            have ha12' := ha12.symm
            subst hs12' ha12'
            simp only [Ar.v]
            obtain ⟨W12, HW12⟩ : ∃ z, Hid (w12.alloc (.cells #[.slice sa12 sn12 sc12, .slice aa12 an12 ac12] 55) = z) := ⟨_, rfl⟩
            have hal : Below w12.heap.size w12 W12 := by rw [← HW12.out]; exact abal _ _
            have X12 : Hid (BoxA W12 w12.heap.size (.slice sa12 sn12 sc12) (.slice aa12 an12 ac12)) := by show BoxA _ _ _ _; rw [← HW12.out]; exact BoxA.new _ _ _ _
            have HC12 : Hid (Below WR.heap.size WR W12) := abvia hbq hal
            have HQ12 := Lib.hid hbq.size
            clear hI12 hO12 hal hbq k0 k1 k2 k3 k4 k5 k6 y0 y1 y5 y6
            have HV12 : Hid (Below wo.heap.size wo W12) := abvia HWB.out HC12.out
            obtain ⟨y0, y1, -, -, -⟩ := Y1.out.via (abvia HVA.out HV12.out)
            obtain ⟨k5, k6, -, -, -⟩ := HX4.out W12 HV12.out
            have g1 : (w12.alloc (.cells #[.slice sa12 sn12 sc12, .slice aa12 an12 ac12] 55)).cell? ⟨w.heap.size, 0, none⟩ = some (.slice (some ⟨ob, fb1, none⟩) tn tc) := by rw [HW12.out]; exact y0
            have g2 : (w12.alloc (.cells #[.slice sa12 sn12 sc12, .slice aa12 an12 ac12] 55)).cell? ⟨w.heap.size, 1, none⟩ = some (.slice ba bn bc) := by rw [HW12.out]; exact y1
            have g3 : (w12.alloc (.cells #[.slice sa12 sn12 sc12, .slice aa12 an12 ac12] 55)).cell? ⟨w3.heap.size + 1, 0, none⟩ = some (.slice (some ⟨w3.heap.size, 0, none⟩) 1 1) := by rw [HW12.out]; exact k5
            have g4 : (w12.alloc (.cells #[.slice sa12 sn12 sc12, .slice aa12 an12 ac12] 55)).cell? ⟨w3.heap.size + 1, 1, none⟩ = some (.slice ao n nc) := by rw [HW12.out]; exact k6
            clear y0 y1 k5 k6
            go_wp2_with fail
            rw [HW12.out]
            refine (CD2.out W12 HV12.out).mono ?_; rintro e w14 ⟨⟨sa14, sn14, sc14, aa14, an14, ac14, s14, a14⟩, rfl, hI14, hs14, ha14, hO14, hbq⟩
            simp only at hs14 ha14
            have hs14' := hs14.symm
            have ha14' := ha14.symm
            subst hs14' ha14'
            simp only [Ar.v]
            have S12 : W12.heap.size = w12.heap.size + 1 := by rw [← HW12.out]; simp
            have S13 := HQ12.out
            obtain ⟨W15, HW15⟩ : ∃ z, Hid ((w14.setCell ⟨w12.heap.size, 0, none⟩ (.slice sa14 sn14 sc14)).setCell ⟨w12.heap.size, 1, none⟩ (.slice aa14 an14 ac14) = z) := ⟨_, rfl⟩
            have HC15 : Hid (Below WR.heap.size WR W15) := by
              show Below _ _ _
              rw [← HW15.out]
              exact ((abvia HC12.out hbq).setCell (by dsimp only; omega) _).setCell (by dsimp only; omega) _
            have I15 : Hid (Ar.Is ⟨sa14, sn14, sc14, aa14, an14, ac14, f2, f3⟩ W15) := by
              show Ar.Is _ _
              rw [← HW15.out]
              exact ⟨ls_set hI14.shp hO14.shp (by omega) _ _, ls_set hI14.ats hO14.ats (by omega) _ _⟩
            obtain ⟨q0', q1', q2', q3', q4'⟩ := X12.out.via hbq
            have g5 : ((w14.setCell ⟨w12.heap.size, 0, none⟩ (.slice sa14 sn14 sc14)).setCell ⟨w12.heap.size, 1, none⟩ (.slice aa14 an14 ac14)).cell? ⟨wo.heap.size, 0, none⟩ = some (.slice none 0 0) := by rw [HW15.out]; exact (HBX.out.via HC15.out).c0
            have g6 : ((w14.setCell ⟨w12.heap.size, 0, none⟩ (.slice sa14 sn14 sc14)).setCell ⟨w12.heap.size, 1, none⟩ (.slice aa14 an14 ac14)).cell? ⟨wo.heap.size, 1, none⟩ = some (.slice none 0 0) := by rw [HW15.out]; exact (HBX.out.via HC15.out).c1
            have CE := Lib.hid (eq_any (w := W15) I15.out (HWA.out.via HC15.out))
            simp only [Ar.v] at CE
            rw [show decide (f2 = [] ∧ f3 = ([] : List Int)) = true by rw [decide_eq_true_eq]; exact ⟨r4, r5⟩] at CE
            have r1' := r1.symm
            subst r1'
            clear r1 r4 r5 hI14 hO14 hbq S12 S13 g1 g2 g3 g4
            go_wp2_with fail
            rw [HW15.out]
            refine CE.out.mono ?_; rintro e w16 ⟨rfl, hbq⟩
            have HVZ := Lib.hid (HEND.out _ (abvia HWB.out (abvia HC15.out hbq)))
            clear hbq g5 g6 q0' q1' q2' q3' q4'
            go_wp2
            go_roundw
            case rel => exact ⟨2, by omega, rfl, HVZ⟩
            case measure => simp [RowKit.intOf]
          · have hf1 : (fv == 0) = false := by simpa using hfv
            have hf2 : (fv != 0) = true := by simpa using hfv
            have HWB : Hid (Below wo.heap.size wo ((wr.setCell ⟨wo.heap.size, 0, none⟩ (.slice none 0 0)).setCell ⟨wo.heap.size, 1, none⟩ (.slice none 0 0))) :=
              (HR.out.below.setCell (Nat.le_refl _) _).setCell (Nat.le_refl _) _
            have HBX : Hid (BoxA ((wr.setCell ⟨wo.heap.size, 0, none⟩ (.slice none 0 0)).setCell ⟨wo.heap.size, 1, none⟩ (.slice none 0 0)) wo.heap.size (.slice none 0 0) (.slice none 0 0)) :=
              HR.out.box.set _ _
            have HWA : Hid (Ar.Is ⟨none, 0, 0, none, 0, 0, [], []⟩ ((wr.setCell ⟨wo.heap.size, 0, none⟩ (.slice none 0 0)).setCell ⟨wo.heap.size, 1, none⟩ (.slice none 0 0))) := by
              exact Ar.is_nil _
            obtain ⟨r1, r2, r3⟩ := HGF.out
            have r0 := fst_stop (ibE op true (zs.take n) tl b m) hj (by rw [HF0.out]; exact hfv)
            rw [HF0.out] at r0
            rw [r0] at r1
            obtain ⟨r4, r5⟩ := r3 (by rw [r1]; exact hfv)
            clear r0 r2 r3 hgo
            obtain ⟨WR, HWR⟩ : ∃ z, Hid (((wr.setCell ⟨wo.heap.size, 0, none⟩ (.slice none 0 0)).setCell ⟨wo.heap.size, 1, none⟩ (.slice none 0 0)) = z) := ⟨_, rfl⟩
            rw [HWR.out] at HWB HBX HWA
            obtain ⟨k5, k6, -, -, -⟩ := HX4.out WR HWB.out
            obtain ⟨y5, y6, -, -, -⟩ := Y1.out.via (abvia HVA.out HWB.out)
            rw [← HWR.out] at k5 k6 y5 y6
            go_wp2_with fail
            rw [HWR.out]
            refine (CD1.out _ HWB.out).mono ?_; rintro e w12 ⟨⟨sa12, sn12, sc12, aa12, an12, ac12, s12, a12⟩, rfl, hI12, hs12, ha12, hO12, hbq⟩
            simp only at hs12 ha12
            have hs12' := hs12.symm
            have ha12' := ha12.symm
            subst hs12' ha12'
            simp only [Ar.v]
            obtain ⟨W12, HW12⟩ : ∃ z, Hid (w12.alloc (.cells #[.slice sa12 sn12 sc12, .slice aa12 an12 ac12] 55) = z) := ⟨_, rfl⟩
            have hal : Below w12.heap.size w12 W12 := by rw [← HW12.out]; exact abal _ _
            have X12 : Hid (BoxA W12 w12.heap.size (.slice sa12 sn12 sc12) (.slice aa12 an12 ac12)) := by show BoxA _ _ _ _; rw [← HW12.out]; exact BoxA.new _ _ _ _
            have HC12 : Hid (Below WR.heap.size WR W12) := abvia hbq hal
            have HQ12 := Lib.hid hbq.size
            clear hI12 hO12 hal hbq k0 k1 k2 k3 k4 k5 k6 y0 y1 y5 y6
            have HV12 : Hid (Below wo.heap.size wo W12) := abvia HWB.out HC12.out
            obtain ⟨y0, y1, -, -, -⟩ := Y1.out.via (abvia HVA.out HV12.out)
            obtain ⟨k5, k6, -, -, -⟩ := HX4.out W12 HV12.out
            have g1 : (w12.alloc (.cells #[.slice sa12 sn12 sc12, .slice aa12 an12 ac12] 55)).cell? ⟨w.heap.size, 0, none⟩ = some (.slice (some ⟨ob, fb1, none⟩) tn tc) := by rw [HW12.out]; exact y0
            have g2 : (w12.alloc (.cells #[.slice sa12 sn12 sc12, .slice aa12 an12 ac12] 55)).cell? ⟨w.heap.size, 1, none⟩ = some (.slice ba bn bc) := by rw [HW12.out]; exact y1
            have g3 : (w12.alloc (.cells #[.slice sa12 sn12 sc12, .slice aa12 an12 ac12] 55)).cell? ⟨w3.heap.size + 1, 0, none⟩ = some (.slice (some ⟨w3.heap.size, 0, none⟩) 1 1) := by rw [HW12.out]; exact k5
            have g4 : (w12.alloc (.cells #[.slice sa12 sn12 sc12, .slice aa12 an12 ac12] 55)).cell? ⟨w3.heap.size + 1, 1, none⟩ = some (.slice ao n nc) := by rw [HW12.out]; exact k6
            clear y0 y1 k5 k6
            go_wp2_with fail
            rw [HW12.out]
            refine (CD2.out W12 HV12.out).mono ?_; rintro e w14 ⟨⟨sa14, sn14, sc14, aa14, an14, ac14, s14, a14⟩, rfl, hI14, hs14, ha14, hO14, hbq⟩
            simp only at hs14 ha14
            have hs14' := hs14.symm
            have ha14' := ha14.symm
            subst hs14' ha14'
            simp only [Ar.v]
            have S12 : W12.heap.size = w12.heap.size + 1 := by rw [← HW12.out]; simp
            have S13 := HQ12.out
            obtain ⟨W15, HW15⟩ : ∃ z, Hid ((w14.setCell ⟨w12.heap.size, 0, none⟩ (.slice sa14 sn14 sc14)).setCell ⟨w12.heap.size, 1, none⟩ (.slice aa14 an14 ac14) = z) := ⟨_, rfl⟩
            have HC15 : Hid (Below WR.heap.size WR W15) := by
              show Below _ _ _
              rw [← HW15.out]
              exact ((abvia HC12.out hbq).setCell (by dsimp only; omega) _).setCell (by dsimp only; omega) _
            have I15 : Hid (Ar.Is ⟨sa14, sn14, sc14, aa14, an14, ac14, f2, f3⟩ W15) := by
              show Ar.Is _ _
              rw [← HW15.out]
              exact ⟨ls_set hI14.shp hO14.shp (by omega) _ _, ls_set hI14.ats hO14.ats (by omega) _ _⟩
            obtain ⟨q0', q1', q2', q3', q4'⟩ := X12.out.via hbq
            have g5 : ((w14.setCell ⟨w12.heap.size, 0, none⟩ (.slice sa14 sn14 sc14)).setCell ⟨w12.heap.size, 1, none⟩ (.slice aa14 an14 ac14)).cell? ⟨wo.heap.size, 0, none⟩ = some (.slice none 0 0) := by rw [HW15.out]; exact (HBX.out.via HC15.out).c0
            have g6 : ((w14.setCell ⟨w12.heap.size, 0, none⟩ (.slice sa14 sn14 sc14)).setCell ⟨w12.heap.size, 1, none⟩ (.slice aa14 an14 ac14)).cell? ⟨wo.heap.size, 1, none⟩ = some (.slice none 0 0) := by rw [HW15.out]; exact (HBX.out.via HC15.out).c1
            have CE := Lib.hid (eq_any (w := W15) I15.out (HWA.out.via HC15.out))
            simp only [Ar.v] at CE
            rw [show decide (f2 = [] ∧ f3 = ([] : List Int)) = true by rw [decide_eq_true_eq]; exact ⟨r4, r5⟩] at CE
            have r1' := r1.symm
            subst r1'
            clear r1 r4 r5 hI14 hO14 hbq S12 S13 g1 g2 g3 g4
            go_wp2_with fail
            rw [HW15.out]
            refine CE.out.mono ?_; rintro e w16 ⟨rfl, hbq⟩
            have HVZ := Lib.hid (HEND.out _ (abvia HWB.out (abvia HC15.out hbq)))
            clear hbq g5 g6 q0' q1' q2' q3' q4'
            go_wp2
            go_roundw
            case rel => exact ⟨2, by omega, rfl, HVZ⟩
            case measure => simp [RowKit.intOf]
set_option maxRecDepth 100000 in
set_option maxHeartbeats 1600000 in
theorem below_no {w : World} {op : Int} {ao : Option Addr} {nn nc : Nat} {zs : List Int} (hns : Ls w ao nn nc zs) {Y : Ar} (hY : Y.Is w) (hno : ¬ (hasV op 2 = true ∧ amE Y.s Y.a = 0 ∧ Y.sn ≠ 0 ∧ Y.s.getD 0 0 ≤ nn)) :
    Calls Try.prog 10 #[.int .i64 op, .slice ao nn nc, Y.v] w (RetB w (.bool true)) := by
  obtain ⟨ta, tn, tc, ba, bn, bc, t, b⟩ := Y
  simp only [Ar.v] at hno ⊢
  obtain ⟨W, HW⟩ : ∃ z, Hid (w.alloc (.cells #[.slice ta tn tc, .slice ba bn bc] 55) = z) := ⟨_, rfl⟩
  have hw : Below w.heap.size w W := by rw [← HW.out]; exact abal _ _
  have BY : BoxA W w.heap.size (.slice ta tn tc) (.slice ba bn bc) := by rw [← HW.out]; exact BoxA.new _ _ _ _
  have hIY := hY.via hw
  have BG := Lib.hid (begun5_any W)
  have CY := Lib.hid (fun w1 (hb : Below W.heap.size W w1) => arrmay_any (hIY.via hb))
  have CH2 := Lib.hid (fun w1 => has_any op 2 w1)
  simp only [Ar.v] at CY
  obtain ⟨g2, HG2⟩ : ∃ z, Hid (hasV op 2 = z) := ⟨_, rfl⟩
  obtain ⟨my, HMY⟩ : ∃ z, Hid (amE t b = z) := ⟨_, rfl⟩
  obtain ⟨s0, HS0⟩ : ∃ z, Hid (t.getD 0 0 = z) := ⟨_, rfl⟩
  rw [HMY.out] at CY
  rw [HG2.out] at CH2
  rw [HG2.out, HMY.out, HS0.out] at hno
  have HWB := Lib.hid hw
  have IY := Lib.hid hIY
  have Y1 := Lib.hid BY
  have HV0 : Hid (Below W.heap.size W W) := Below.refl _ _
  clear hns hY hIY hw BY
  go_enter Try.func10, Try.ntmps10
  go_wp2_with fail
  rw [HW.out]
  refine (BG.out).mono ?_; rintro e w1 ⟨rfl, hbq⟩
  have HV1 := Lib.hid (abvia HV0.out hbq)
  clear hbq
  go_wp2_with fail
  refine (CH2.out w1).mono ?_; rintro e w2 ⟨rfl, nq, hwq⟩
  have HV2 : Hid (Below W.heap.size W w2) := by show Below _ _ _; rw [hwq]; exact abvia HV1.out (adrew _ _)
  clear hwq
  cases g2
  · simp only [Bool.not_false]
    clear hno
    go_wp2
    go_ret
    exact RetB.mk rfl (abvia HWB.out HV2.out)
  simp only [Bool.not_true]
  try clear y0 y1
  obtain ⟨y0, y1, -, -, -⟩ := Y1.out.via HV2.out
  go_wp2_with fail
  refine (CY.out w2 HV2.out).mono ?_; rintro e w3 ⟨rfl, hbq⟩
  have HV3 := Lib.hid (abvia HV2.out hbq)
  clear hbq
  try clear y0 y1
  obtain ⟨y0, y1, -, -, -⟩ := Y1.out.via HV3.out
  by_cases hmy : my = 0
  case neg =>
    have hmy' : (my != 0) = true := by simpa using hmy
    clear hno
    go_wp2
    go_ret
    exact RetB.mk rfl (abvia HWB.out HV3.out)
  subst hmy
  by_cases h0 : tn = 0
  · subst h0
    clear hno
    go_wp2
    go_ret
    exact RetB.mk rfl (abvia HWB.out HV3.out)
  have hlt : (nn : Int) < s0 := by
    have h1 : ¬ (s0 ≤ (nn : Int)) := fun h2 => hno (by first | exact ⟨rfl, rfl, h0, h2⟩ | exact ⟨trivial, trivial, h0, h2⟩ | simp_all)
    omega
  have q1 : ((tn : Int) == 0) = false := by simp; omega
  have q2 : (tn == 0) = false := by simp; omega
  have q5 : (0 : Int) < tn := by omega
  have q6 : 0 < tn := by omega
  obtain ⟨ob, fb1, rfl, hcb⟩ := (IY.out.via HV3.out).shp.at q6
  have d1 := hcb 0 q6
  simp only [Nat.add_zero] at d1
  rw [HS0.out] at d1
  clear hcb hno h0
  go_wp2
  go_ret
  exact RetB.mk rfl (abvia HWB.out HV3.out)
theorem walkAtomBelow {w : World} {op : Int} (hop : -9223372036854775808 ≤ op ∧ op ≤ 9223372036854775807) {ao : Option Addr} {nn nc : Nat} {zs : List Int} (hns : Ls w ao nn nc zs) {Y : Ar} (hY : Y.Is w) :
    Calls Try.prog 10 #[.int .i64 op, .slice ao nn nc, Y.v] w (RetB w (.bool true)) := by
  by_cases h : hasV op 2 = true ∧ amE Y.s Y.a = 0 ∧ Y.sn ≠ 0 ∧ Y.s.getD 0 0 ≤ nn
  · obtain ⟨h1, h2, h3, h4⟩ := h
    have hl := hY.shp.len
    cases hs : Y.s with
    | nil => rw [hs] at hl; simp at hl; omega
    | cons x tl =>
      have hx : 0 ≤ x := by
        have := (mayE_zero (amE_zero h2).1).1 0
        rw [hs] at this; simpa using this
      obtain ⟨n, rfl⟩ := Int.eq_ofNat_of_zero_le hx
      rw [hs] at h4
      simp at h4
      exact below_ok hns hY hs h2 h1 h4
  · exact below_no hns hY h
end Go.Proofs.Ytdedbfbkakofgaa

/- AtomEach: the walk of the statement's function. -/
import Derived.Test.YtadblhnakdkciaaAtomBegun
import Derived.Test.YtadblhnakdkciaaAppend
import Derived.Deep.CutRange
import Derived.Deep.Cut
namespace Go.Proofs.Ytadblhnakdkciaa
open Go.RowKit Go.Lib
set_option linter.unusedVariables false
set_option linter.unusedSimpArgs false
attribute [local go_sem] alloc_drewN setCell_drewN

/-- What the law gathers on its own, behind k rounds. -/
structure WantI (w0 wr : World) (b : Nat) (u : Value) (ao : Option Addr) (n c : Nat) (z : List Int) : Prop where
  box : BoxA wr b u (.slice ao n c)
  own : wr.ownsRow (b + 1) 2 1 (.slice ao n c) n (z.map (Value.int .i64))
  below : Below w0.heap.size w0 wr
  le : w0.heap.size ≤ b
theorem WantI.next {w0 wr wy : World} {b : Nat} {u : Value} {ao : Option Addr} {n c : Nat} {z : List Int} (h : WantI w0 wr b u ao n c z) (hb : Below wr.heap.size wr wy) : WantI w0 wy b u ao n c z :=
  ⟨h.box.via hb, own_below h.own hb (Nat.le_refl _), abvia h.below hb, h.le⟩
theorem WantI.new {w0 : World} (u : Value) (T : TypeId) : WantI w0 (w0.alloc (.cells #[u, .slice none 0 0] T)) w0.heap.size u none 0 0 [] :=
  ⟨BoxA.new _ _ _ _, World.ownsRow_nil _ _ _ _, abal _ _, Nat.le_refl _⟩
theorem WantI.grow {w0 wr wx wz : World} {b : Nat} {u : Value} {ao ao' : Option Addr} {n c n' c' : Nat} {z z' : List Int} (h : WantI w0 wr b u ao n c z) (hx : Below wr.heap.size wr wx) (hb : Below (b + 1) wx wz)
    (hO : wz.ownsRow (b + 1) 2 1 (.slice ao' n' c') n' (z'.map (Value.int .i64))) : WantI w0 (wz.setCell ⟨b, 1, none⟩ (.slice ao' n' c')) b u ao' n' c' z' := by
  have hx2 := (h.box.via hx).below hb (Nat.lt_succ_self b)
  obtain ⟨c0, c1, f0, f1, lt⟩ := hx2
  refine ⟨⟨?_, ?_, ?_, ?_, ?_⟩, ownsRow_setCell_below hO (by dsimp only; omega) _, ((abvia h.below hx).trans (hb.mono (by have := h.le; omega))).setCell h.le _, h.le⟩
  · simp [go_sem, *]
  · simp [go_sem, *]
  · simp [go_sem, *]
  · simp [go_sem, *]
  · simpa using lt
theorem WantI.arr {w0 wr : World} {b : Nat} {ua : Option Addr} {un uc : Nat} {ao : Option Addr} {n c : Nat} {s z : List Int} (h : WantI w0 wr b (.slice ua un uc) ao n c z) (hs : Ls wr ua un uc s) (hn : n ≤ 1000000) (hr : ∀ i, -9223372036854775808 ≤ z.getD i 0 ∧ z.getD i 0 ≤ 9223372036854775807) :
    Ar.Is ⟨ua, un, uc, ao, n, c, s, z⟩ wr := ⟨hs, ls_of_own h.own (by show n * 8 ≤ _; omega) hr⟩
theorem map_range_rng (f : Nat → Int) (k : Nat) (h : ∀ i, i < k → -9223372036854775808 ≤ f i ∧ f i ≤ 9223372036854775807) (i : Nat) : -9223372036854775808 ≤ ((List.range k).map f).getD i 0 ∧ ((List.range k).map f).getD i 0 ≤ 9223372036854775807 := by
  rcases Nat.lt_or_ge i k with hi | hi
  · rw [range_map_getD f hi]; exact h i hi
  · rw [List.getD_eq_getElem?_getD, List.getElem?_eq_none (by simpa using hi)]; simp
theorem range_map_snoc (f : Nat → Int) (k : Nat) : (List.range (k + 1)).map f = (List.range k).map f ++ [f k] := by rw [List.range_succ, List.map_append, List.map_singleton]
theorem ls_one (w : World) (T : TypeId) (z : Int) (hz : -9223372036854775808 ≤ z ∧ z ≤ 9223372036854775807) : Ls (w.alloc (.cells #[.int .i64 z] T)) (some ⟨w.heap.size, 0, none⟩) 1 1 [z] :=
  ls_alloc w [z] T (by simp) (rng_one hz)
theorem ag_self (s : List Int) : agL s s = s ∧ agE s s = 0 := by
  unfold agL agE
  rw [if_neg (Nat.lt_irrefl _), if_neg (Nat.lt_irrefl _), List.take_length, if_pos rfl, if_pos rfl]; exact ⟨rfl, rfl⟩
theorem dy_same {op : Int} {s a b : List Int} (h1 : amE s a = 0) (h2 : amE s b = 0) (hr : refV op 2 = 0) :
    adyE op s a s b = firE ((List.range b.length).map fun i => dyE op (a.getD i 0) (b.getD i 0)) ∧
    (adyE op s a s b = 0 → adyS op s a s b = s ∧ adyA op s a s b = (List.range b.length).map fun i => dyV op (a.getD i 0) (b.getD i 0)) := by
  have p1 := (am_pr h1).1
  have p2 := (am_pr h2).1
  obtain ⟨q1, q2⟩ := ag_self s
  have hn : adyN s s = b.length := by unfold adyN; rw [q1]; omega
  have ha : a.length = b.length := by omega
  have hi : ∀ i, i ∈ List.range b.length → i / (b.length / a.length) = i ∧ i / (b.length / b.length) = i := by
    intro i hi
    have hi' := List.mem_range.1 hi
    rw [ha, Nat.div_self (by omega), Nat.div_one]; exact ⟨rfl, rfl⟩
  constructor
  · unfold adyE
    rw [if_neg (by rw [h1, h2]; simp), if_neg (by rw [hr]; simp), if_neg (by rw [q2]; simp), hn]
    congr 1
    refine List.map_congr_left fun i h => ?_
    rw [dnE, (hi i h).1, (hi i h).2]
  · intro h
    refine ⟨by rw [adyS, if_pos h, q1], ?_⟩
    rw [adyA, if_pos h, hn]
    refine List.map_congr_left fun i h => ?_
    rw [dnV, (hi i h).1, (hi i h).2]

set_option maxRecDepth 100000 in
set_option maxHeartbeats 800000 in
theorem each_bad {w : World} {X Y : Ar} (hX : X.Is w) (hY : Y.Is w) (op : Int) (hm : amE Y.s Y.a ≠ 0) :
    Calls Try.prog 4 #[.int .i64 op, X.v, Y.v] w (RetB w (.bool true)) := by
  obtain ⟨sa, sn, sc, aa, an, ac, s, a⟩ := X
  obtain ⟨ta, tn, tc, ba, bn, bc, t, b⟩ := Y
  simp only [Ar.v]
  obtain ⟨W, HWW⟩ : ∃ W, Hid ((w.alloc (.cells #[.slice sa sn sc, .slice aa an ac] 30)).alloc (.cells #[.slice ta tn tc, .slice ba bn bc] 30) = W) := ⟨_, rfl⟩
  have hw : Below w.heap.size w W := by rw [← HWW.out]; exact abvia (abal _ _) (abal _ _)
  have BX : BoxA W w.heap.size (.slice sa sn sc) (.slice aa an ac) := by rw [← HWW.out]; exact (BoxA.new _ _ _ _).via (abal _ _)
  have BY : BoxA W (w.heap.size + 1) (.slice ta tn tc) (.slice ba bn bc) := by rw [← HWW.out]; simpa using BoxA.new (w.alloc (.cells #[.slice sa sn sc, .slice aa an ac] 30)) 30 (.slice ta tn tc) (.slice ba bn bc)
  have hIX := hX.via hw
  have hIY := hY.via hw
  have BG := Lib.hid (begun5_any W)
  have CM := Lib.hid (fun w1 (hb : Below W.heap.size W w1) => arrmay_any (hIY.via hb))
  have CN := Lib.hid (fun w1 (hb : Below W.heap.size W w1) => amonad_any (hIY.via hb) op)
  simp only [Ar.v] at CM CN
  rw [show amoE op t b = 1 by rw [amoE, if_pos hm]] at CN
  obtain ⟨me, HME⟩ : ∃ e, Hid (amE t b = e) := ⟨_, rfl⟩
  rw [HME.out] at hm CM
  have hm' : (me != 0) = true := by simpa using hm
  have HW := Lib.hid hw
  have Y1 := Lib.hid BY
  clear hX hY hIX hIY hw BX BY
  go_enter Try.func4, Try.ntmps4
  go_wp2_with fail
  rw [HWW.out]
  refine BG.out.mono ?_; rintro e w1 ⟨rfl, hb1⟩
  obtain ⟨y0, y1, -, -, -⟩ := Y1.out.via hb1
  have HV1 := Lib.hid hb1
  clear hb1
  go_wp2_with fail
  refine (CM.out w1 HV1.out).mono ?_; rintro e w2 ⟨rfl, hb2⟩
  have HV2 := Lib.hid (abvia HV1.out hb2)
  clear hb2 y0 y1
  obtain ⟨y0, y1, -, -, -⟩ := Y1.out.via HV2.out
  go_wp2_with fail
  refine (CN.out w2 HV2.out).mono ?_; rintro e w3 ⟨⟨sa3, sn3, sc3, aa3, an3, ac3, s3, a3⟩, rfl, -, -, -, -, hb3⟩
  have HV3 : Hid (∀ o, Below w.heap.size w (w3.alloc o)) := fun o => abvia HW.out (abvia (abvia HV2.out hb3) (abal _ o))
  clear hb3 y0 y1
  simp only [Ar.v]
  go_wp2
  go_ret
  exact RetB.mk rfl (HV3.out _)

set_option maxRecDepth 100000 in
set_option maxHeartbeats 6400000 in
theorem each_ok {w : World} {X Y : Ar} (hX : X.Is w) (hY : Y.Is w) (op : Int) (hm : amE Y.s Y.a = 0) :
    Calls Try.prog 4 #[.int .i64 op, X.v, Y.v] w (RetB w (.bool true)) := by
  obtain ⟨sa, sn, sc, aa, an, ac, s, a⟩ := X
  obtain ⟨ta, tn, tc, ba, bn, bc, t, b⟩ := Y
  simp only [Ar.v] at hm ⊢
  obtain ⟨W, HWW⟩ : ∃ W, Hid ((w.alloc (.cells #[.slice sa sn sc, .slice aa an ac] 30)).alloc (.cells #[.slice ta tn tc, .slice ba bn bc] 30) = W) := ⟨_, rfl⟩
  have hw : Below w.heap.size w W := by rw [← HWW.out]; exact abvia (abal _ _) (abal _ _)
  have BX : BoxA W w.heap.size (.slice sa sn sc) (.slice aa an ac) := by rw [← HWW.out]; exact (BoxA.new _ _ _ _).via (abal _ _)
  have BY : BoxA W (w.heap.size + 1) (.slice ta tn tc) (.slice ba bn bc) := by rw [← HWW.out]; simpa using BoxA.new (w.alloc (.cells #[.slice sa sn sc, .slice aa an ac] 30)) 30 (.slice ta tn tc) (.slice ba bn bc)
  have hIX := hX.via hw
  have hIY := hY.via hw
  have BG := Lib.hid (begun5_any W)
  have CM := Lib.hid (fun w1 (hb : Below W.heap.size W w1) => arrmay_any (hIY.via hb))
  have CX := Lib.hid (fun w1 (hb : Below W.heap.size W w1) => arrmay_any (hIX.via hb))
  have CN := Lib.hid (fun w1 (hb : Below W.heap.size W w1) => amonad_any (hIY.via hb) op)
  have CD := Lib.hid (fun w1 (hb : Below W.heap.size W w1) => adyad_any (hIX.via hb) (hIY.via hb) op)
  have CS := Lib.hid (fun w1 (hb : Below W.heap.size W w1) => eq_any (A := ⟨sa, sn, sc, none, 0, 0, s, []⟩) (B := ⟨ta, tn, tc, none, 0, 0, t, []⟩) ⟨(hIX.via hb).shp, Ls.zero _ _ (Nat.zero_le _)⟩ ⟨(hIY.via hb).shp, Ls.zero _ _ (Nat.zero_le _)⟩)
  have CH1 := Lib.hid (fun w1 => has_any op 1 w1)
  have CH2 := Lib.hid (fun w1 => has_any op 2 w1)
  simp only [Ar.v, hm, and_true] at CM CN CX CD CS
  obtain ⟨N, hN⟩ : ∃ N, b.length = N := ⟨_, rfl⟩
  have hbn : bn = N := by rw [← hN]; exact hY.ats.len.symm
  subst hbn
  have hNb : bn ≤ 4096 := by rw [← hN]; exact am_len hm
  have HR1 := Lib.hid hX.ats.rng
  have HR2 := Lib.hid hY.ats.rng
  obtain ⟨mx, HMX⟩ : ∃ e, Hid (amE s a = e) := ⟨_, rfl⟩
  obtain ⟨g1, HG1⟩ : ∃ e, Hid (hasV op 1 = e) := ⟨_, rfl⟩
  obtain ⟨g2, HG2⟩ : ∃ e, Hid (hasV op 2 = e) := ⟨_, rfl⟩
  obtain ⟨fe, HFE⟩ : ∃ e, Hid (amoE op t b = e) := ⟨_, rfl⟩
  obtain ⟨fs, HFS⟩ : ∃ e, Hid (amoS op t b = e) := ⟨_, rfl⟩
  obtain ⟨fa, HFA⟩ : ∃ e, Hid (amoA op t b = e) := ⟨_, rfl⟩
  obtain ⟨de, HDE⟩ : ∃ e, Hid (adyE op s a t b = e) := ⟨_, rfl⟩
  obtain ⟨ds, HDS⟩ : ∃ e, Hid (adyS op s a t b = e) := ⟨_, rfl⟩
  obtain ⟨da, HDA⟩ : ∃ e, Hid (adyA op s a t b = e) := ⟨_, rfl⟩
  obtain ⟨st, HST⟩ : ∃ q, Hid (decide (s = t) = q) := ⟨_, rfl⟩
  rw [HMX.out] at CX
  rw [HG1.out] at CH1
  rw [HG2.out] at CH2
  rw [HFE.out, HFS.out, HFA.out] at CN
  rw [HDE.out, HDS.out, HDA.out] at CD
  rw [HST.out] at CS
  have HW := Lib.hid hw
  have HM := Lib.hid hm
  have HN := Lib.hid hN
  have IX := Lib.hid hIX
  have IY := Lib.hid hIY
  have X1 := Lib.hid BX
  have Y1 := Lib.hid BY
  have HXL := Lib.hid hX.ats.len
  clear hX hY hIX hIY hw BX BY hN hm
  simp only at HXL
  go_enter Try.func4, Try.ntmps4
  go_wp2_with fail
  rw [HWW.out]
  refine BG.out.mono ?_; rintro e w1 ⟨rfl, hb1⟩
  obtain ⟨y0, y1, -, -, -⟩ := Y1.out.via hb1
  have HV1 := Lib.hid hb1
  clear hb1
  go_wp2_with fail
  refine (CM.out w1 HV1.out).mono ?_; rintro e w2 ⟨rfl, hb2⟩
  have HV2 := Lib.hid (abvia HV1.out hb2)
  clear hb2 y0 y1
  obtain ⟨y0, y1, -, -, -⟩ := Y1.out.via HV2.out
  go_wp2_with fail
  refine (CN.out w2 HV2.out).mono ?_; rintro e w3 ⟨⟨sa3, sn3, sc3, aa3, an3, ac3, s3, a3⟩, rfl, hI3, hs3, ha3, -, hb3⟩
  simp only at hs3 ha3
  have hs3' := hs3.symm
  have ha3' := ha3.symm
  subst hs3' ha3'
  simp only [Ar.v]
  obtain ⟨W3, HW3⟩ : ∃ W3, Hid (w3.alloc (.cells #[.slice sa3 sn3 sc3, .slice aa3 an3 ac3] 30) = W3) := ⟨_, rfl⟩
  have hal : Below w3.heap.size w3 W3 := by rw [← HW3.out]; exact abal _ _
  have X3 : Hid (BoxA W3 w3.heap.size (.slice sa3 sn3 sc3) (.slice aa3 an3 ac3)) := by rw [← HW3.out]; exact BoxA.new _ _ _ _
  have I3 := Lib.hid (hI3.via hal)
  have HV3 := Lib.hid (abvia HV2.out (abvia hb3 hal))
  clear hI3 hb3 hal y0 y1
  go_wp2_with fail
  rw [HW3.out]
  refine (CH1.out W3).mono ?_; rintro e w4 ⟨rfl, n4, rfl⟩
  obtain ⟨W4, HW4⟩ : ∃ W4, Hid (W3.drewN n4 = W4) := ⟨_, rfl⟩
  have hv : Below W3.heap.size W3 W4 := by rw [← HW4.out]; exact adrew _ _
  have HV4 := Lib.hid (abvia HV3.out hv)
  have X4 := Lib.hid (X3.out.via hv)
  have I4 := Lib.hid (I3.out.via hv)
  rw [HW4.out]
  clear hv
  go_upto_if 44 with (fail)
  go_cut [] from 11 (fun wx => Hid (Below W.heap.size W wx))
  case first =>
    cases g1
    · have hf : fe = 16 ∨ fe = 1 := by
        rcases (refV_two op 1).2 HG1.out with h | h
        · left; rw [← HFE.out, amoE, HM.out, h]; rfl
        · right; rw [← HFE.out, amoE, HM.out, h]; rfl
      rcases hf with rfl | rfl
      · simp only [Bool.not_false]
        go_wp2_with fail
        go_meet
        exact HV4
      · simp only [Bool.not_false]
        go_wp2_with fail
        go_meet
        exact HV4
    · simp only [Bool.not_true]
      have HFM : Hid (fe = firE ((List.range bn).map (mnE op b))) := by
        show _ = _
        rw [← HFE.out, amoE, HM.out, (refV_two op 1).1 HG1.out, HN.out]; rfl
      have HNIL : Hid (fe ≠ 0 → [] = fs ∧ [] = fa) := fun h => ⟨by rw [← HFS.out, amoS, HFE.out, if_neg h], by rw [← HFA.out, amoA, HFE.out, if_neg h]⟩
      have HOKM : Hid (fe = 0 → fs = t ∧ fa = (List.range bn).map (mnV op b)) := fun h => ⟨by rw [← HFS.out, amoS, HFE.out, if_pos h], by rw [← HFA.out, amoA, HFE.out, if_pos h, HN.out]⟩
      obtain ⟨y0, y1, -, -, -⟩ := Y1.out.via HV4.out
      obtain ⟨W5, HW5⟩ : ∃ W5, Hid (W4.alloc (.cells #[.slice ta tn tc, .slice none 0 0] 30) = W5) := ⟨_, rfl⟩
      have hwi : WantI W4 W5 W4.heap.size (.slice ta tn tc) none 0 0 [] := by rw [← HW5.out]; exact WantI.new _ _
      have HWI := Lib.hid hwi
      have HB4 := HV4
      obtain ⟨k0, k1, k2, k3, k4⟩ := hwi.box
      clear hwi
      go_wp2_with fail
      rw [HW5.out]
      clear y0 y1
      go_loopw [12, 13] (fun f i wr => ∃ (k : Nat) (fv : Int) (ao : Option Addr) (c : Nat), k ≤ bn ∧ f = .int .i64 fv ∧ i = .int .i64 k ∧ Hid (firE ((List.range k).map (mnE op b)) = fv) ∧ Hid (WantI W4 wr W4.heap.size (.slice ta tn tc) ao k c ((List.range k).map (mnV op b)))) (fun f i _ => bn - (RowKit.intOf i).toNat)
      case atStart => exact ⟨0, 0, none, 0, Nat.zero_le _, rfl, rfl, rfl, HWI⟩
      case round =>
        obtain ⟨k, fv, ao, c, hk, rfl, rfl, HF0, HR⟩ := hrel
        clear k0 k1 k2 k3 k4
        obtain ⟨k0, k1, k2, k3, k4⟩ := HR.out.box
        have HVR := Lib.hid (abvia HB4.out HR.out.below)
        obtain ⟨y0, y1, -, -, -⟩ := Y1.out.via HVR.out
        by_cases hgo : k < bn ∧ fv = 0
        · obtain ⟨hlt, rfl⟩ := hgo
          have hlt' : (k : Int) < bn := by omega
          have d1 : ∃ x, wr.cell? ⟨W4.heap.size, 0, none⟩ = some x := ⟨_, k0⟩
          clear d1
          obtain ⟨ob, fb1, rfl, hcb⟩ := (IY.out.via HVR.out).ats.at (show 0 < bn by omega)
          have d1 := hcb k hlt
          clear hcb
          obtain ⟨x, HX⟩ : ∃ x, Hid (b.getD k 0 = x) := ⟨_, rfl⟩
          rw [HX.out] at d1
          obtain ⟨z, HZ⟩ : ∃ v, Hid ((mnV op b) k = v) := ⟨_, rfl⟩
          obtain ⟨ee, HEE⟩ : ∃ v, Hid ((mnE op b) k = v) := ⟨_, rfl⟩
          have HZR : Hid (-9223372036854775808 ≤ z ∧ z ≤ 9223372036854775807) := by show _ ∧ _; rw [← HZ.out]; exact mo_rng op _ (HR2.out k)
          have CW := Lib.hid (monad_any op x wr (by rw [← HX.out]; exact HR2.out k))
          rw [show moV op x = z by rw [← HX.out]; exact HZ.out, show moE op x = ee by rw [← HX.out]; exact HEE.out] at CW
          go_wp2_with fail
          refine CW.out.mono ?_; rintro e wx ⟨rfl, n5, hwx⟩
          have HBX : Hid (Below wr.heap.size wr wx) := by show Below _ _ _; rw [hwx]; exact adrew _ _
          clear hwx d1
          have HRX := Lib.hid (HR.out.next HBX.out)
          obtain ⟨i0, hi, hz0, hz1, hz2⟩ := info_parts (P := Try.prog) (e := 2) (z := .int .i64 0) (size := 1) (bytes := 8) (by kernel_rfl)
          have HO := Lib.hid (own_below HRX.out.own (abal wx (.cells #[.int .i64 z] 2)) (Nat.le_refl _))
          have HLZ := Lib.hid (ls_one wx 2 z HZR.out)
          have hsz : k + 1 ≤ 1000000 := by omega
          have hbx : W4.heap.size + 1 ≤ wx.heap.size := HRX.out.box.lt
          have hbs : W4.heap.size + 1 ≤ (wx.alloc (.cells #[.int .i64 z] 2)).heap.size := by simp; omega
          clear k0 k1 k2 k3 k4
          obtain ⟨k0, k1, k2, k3, k4⟩ := HRX.out.box
          go_wp2_with (at_builtin; refine wpList_append_ls _ rfl _ _ 26 rfl (W4.heap.size + 1) 2 i0 Try.underlying26 hi hz0 hz1 hz2 _ k ((List.range k).map (mnV op b)) rfl HO.out rfl HLZ.out hsz hbs ?_)
          intro v' w10 hown hgrow
          obtain ⟨ao', c', rfl⟩ := own_form hown
          have hB10 : Below (W4.heap.size + 1) wx w10 := ((abal wx _).mono hbx).grown hgrow hbs (by intro g hg; exact (own_block HO.out hg).1)
          have HG : Hid (WantI W4 (w10.setCell ⟨W4.heap.size, 1, none⟩ (.slice ao' (k + 1) c')) W4.heap.size (.slice ta tn tc) ao' (k + 1) c' ((List.range (k + 1)).map (mnV op b))) := by
            refine HRX.out.grow (Below.refl _ _) hB10 ?_
            rw [range_map_snoc, HZ.out]
            simpa using hown
          have HF1 : Hid (firE ((List.range (k + 1)).map (mnE op b)) = ee) := by show _ = _; rw [fst_step, if_pos HF0.out, HEE.out]
          obtain ⟨q0, q1, q2, q3, q4⟩ := HRX.out.box.below hB10 (Nat.lt_succ_self _)
          clear hown hgrow hsz hbs hbx hB10 k0 k1 k2 k3 k4 y0 y1
          go_wp2
          go_roundw
          case rel => exact ⟨k + 1, ee, ao', c', by omega, rfl, by go_num, HF1, HG⟩
          case measure => simp [RowKit.intOf]; omega
        · by_cases hfv : fv = 0
          · subst hfv
            obtain rfl : k = bn := by omega
            have hge : (k : Int) ≤ k := Int.le_refl _
            have h1 : 0 = fe := by exact (HFM.out.trans HF0.out).symm
            have hq : decide (fs = t ∧ fa = (List.range k).map (mnV op b)) = true := by rw [decide_eq_true_eq]; exact HOKM.out (HFM.out.trans HF0.out)
            have CE := Lib.hid (eq_any (w := wr) (A := ⟨sa3, sn3, sc3, aa3, an3, ac3, fs, fa⟩) (B := ⟨ta, tn, tc, ao, k, c, t, (List.range k).map (mnV op b)⟩) (I4.out.via HR.out.below) (HR.out.arr ((IY.out.via HVR.out).shp) (by omega) (map_range_rng _ _ fun i hi => mo_rng op _ (HR2.out i))))
            simp only [Ar.v, hq] at CE
            subst h1
            clear hq hgo
            obtain ⟨x0, x1, -, -, -⟩ := X4.out.via HR.out.below
            go_wp2_with fail
            refine CE.out.mono ?_; rintro e w12 ⟨rfl, hb12⟩
            have HB12 := Lib.hid (abvia HVR.out hb12)
            clear hb12
            go_wp2_with fail
            go_meet
            exact HB12
          · have hf1 : (fv == 0) = false := by simpa using hfv
            have hf2 : (fv != 0) = true := by simpa using hfv
            have h1 : fv = fe := by rw [HFM.out, fst_stop _ hk (by rw [HF0.out]; exact hfv), HF0.out]
            have h2 : [] = fs ∧ [] = fa := HNIL.out (by omega)
            obtain ⟨h2, h3⟩ := h2
            subst h1 h2 h3
            have HBS : Hid (Below W4.heap.size W4 ((wr.setCell ⟨W4.heap.size, 0, none⟩ (.slice none 0 0)).setCell ⟨W4.heap.size, 1, none⟩ (.slice none 0 0))) := (HR.out.below.setCell (Nat.le_refl _) _).setCell (Nat.le_refl _) _
            have CE := Lib.hid (eq_any (w := (wr.setCell ⟨W4.heap.size, 0, none⟩ (.slice none 0 0)).setCell ⟨W4.heap.size, 1, none⟩ (.slice none 0 0)) (A := ⟨sa3, sn3, sc3, aa3, an3, ac3, [], []⟩) (B := ⟨none, 0, 0, none, 0, 0, [], []⟩) (I4.out.via HBS.out) (Ar.is_nil _))
            simp only [Ar.v, and_self, decide_true] at CE
            obtain ⟨x0, x1, -, -, -⟩ := X4.out.via HBS.out
            go_wp2_with fail
            all_goals
              refine CE.out.mono ?_; rintro e w12 ⟨rfl, hb12⟩
              have HB12 := Lib.hid (abvia (abvia HB4.out HBS.out) hb12)
              clear hb12
              go_wp2_with fail
              go_meet
              exact HB12
  case rest =>
    clear X3 I3 X4 I4 HV1 HV2 HV3 HV4
    obtain ⟨x0, x1, -, -, -⟩ := X1.out.via hcut.out
    obtain ⟨y0, y1, -, -, -⟩ := Y1.out.via hcut.out
    go_wp2_with fail
    refine (CH2.out wc).mono ?_; rintro e w5 ⟨rfl, n5, hw5⟩
    have HV5 : Hid (Below W.heap.size W w5) := by show Below _ _ _; rw [hw5]; exact abvia hcut.out (adrew _ _)
    clear hw5 x0 x1 y0 y1
    obtain ⟨x0, x1, -, -, -⟩ := X1.out.via HV5.out
    obtain ⟨y0, y1, -, -, -⟩ := Y1.out.via HV5.out
    cases g2
    · simp only [Bool.not_false]
      go_wp2
      go_ret
      exact RetB.mk rfl (abvia HW.out HV5.out)
    · simp only [Bool.not_true]
      go_wp2_with fail
      refine (CX.out w5 HV5.out).mono ?_; rintro e w6 ⟨rfl, hb6⟩
      have HV6 := Lib.hid (abvia HV5.out hb6)
      clear hb6 x0 x1 y0 y1
      obtain ⟨x0, x1, -, -, -⟩ := X1.out.via HV6.out
      obtain ⟨y0, y1, -, -, -⟩ := Y1.out.via HV6.out
      by_cases hmx : mx = 0
      · subst hmx
        go_wp2_with fail
        refine (CS.out w6 HV6.out).mono ?_; rintro e w7 ⟨rfl, hb7⟩
        have HVs := Lib.hid (abvia HV6.out hb7)
        clear hb7 x0 x1 y0 y1
        cases st
        · simp only [Bool.not_false]
          go_wp2
          go_ret
          exact RetB.mk rfl (abvia HW.out HVs.out)
        · simp only [Bool.not_true]
          have hst : s = t := by have := HST.out; simpa using this
          subst hst
          have han : an = bn := by
            have h1 := (am_pr HMX.out).1
            have h2 := (am_pr HM.out).1
            have h3 := HXL.out
            have h4 := HN.out
            omega
          subst han
          obtain ⟨x0, x1, -, -, -⟩ := X1.out.via HVs.out
          obtain ⟨y0, y1, -, -, -⟩ := Y1.out.via HVs.out
          go_wp2_with fail
          refine (CD.out w7 HVs.out).mono ?_; rintro e w8 ⟨⟨sa6, sn6, sc6, aa6, an6, ac6, s6, a6⟩, rfl, hI6, hs6, ha6, -, hb8⟩
          simp only at hs6 ha6
          have hs6' := hs6.symm
          have ha6' := ha6.symm
          subst hs6' ha6'
          simp only [Ar.v]
          obtain ⟨W7, HW7⟩ : ∃ W7, Hid (w8.alloc (.cells #[.slice sa6 sn6 sc6, .slice aa6 an6 ac6] 30) = W7) := ⟨_, rfl⟩
          have hal : Below w8.heap.size w8 W7 := by rw [← HW7.out]; exact abal _ _
          have X7 : Hid (BoxA W7 w8.heap.size (.slice sa6 sn6 sc6) (.slice aa6 an6 ac6)) := by rw [← HW7.out]; exact BoxA.new _ _ _ _
          have I7 := Lib.hid (hI6.via hal)
          have HB7 := Lib.hid (abvia HVs.out (abvia hb8 hal))
          clear hI6 hb8 hal x0 x1 y0 y1
          have hds := dy_same HMX.out HM.out ((refV_two op 2).1 HG2.out)
          rw [HDE.out, HDS.out, HDA.out, HN.out] at hds
          have HFM := Lib.hid hds.1
          have HOKM := Lib.hid hds.2
          have HNIL : Hid (de ≠ 0 → [] = ds ∧ [] = da) := fun h => ⟨by rw [← HDS.out, adyS, HDE.out, if_neg h], by rw [← HDA.out, adyA, HDE.out, if_neg h]⟩
          clear hds
          obtain ⟨y0, y1, -, -, -⟩ := Y1.out.via HB7.out
          obtain ⟨W9, HW9⟩ : ∃ W9, Hid (W7.alloc (.cells #[.slice ta tn tc, .slice none 0 0] 30) = W9) := ⟨_, rfl⟩
          have hwi : WantI W7 W9 W7.heap.size (.slice ta tn tc) none 0 0 [] := by rw [← HW9.out]; exact WantI.new _ _
          have HWI := Lib.hid hwi
          obtain ⟨k0, k1, k2, k3, k4⟩ := hwi.box
          clear hwi
          have g0 : (w8.alloc (.cells #[.slice sa6 sn6 sc6, .slice aa6 an6 ac6] 30)).cell? ⟨w.heap.size + 1, 0, none⟩ = some (.slice ta tn tc) := by rw [HW7.out]; exact y0
          have HS7 : Hid (W7.heap.size = w8.heap.size + 1) := by show _ = _; rw [← HW7.out]; simp
          go_wp2_with fail
          rw [HW7.out, HW9.out, ← HS7.out]
          clear y0 y1 g0
          go_loopw [19, 20] (fun f i wr => ∃ (k : Nat) (fv : Int) (ao : Option Addr) (c : Nat), k ≤ an ∧ f = .int .i64 fv ∧ i = .int .i64 k ∧ Hid (firE ((List.range k).map (fun i => dyE op (a.getD i 0) (b.getD i 0))) = fv) ∧ Hid (WantI W7 wr W7.heap.size (.slice ta tn tc) ao k c ((List.range k).map (fun i => dyV op (a.getD i 0) (b.getD i 0))))) (fun f i _ => an - (RowKit.intOf i).toNat)
          case atStart => exact ⟨0, 0, none, 0, Nat.zero_le _, rfl, rfl, rfl, HWI⟩
          case round =>
            obtain ⟨k, fv, ao, c, hk, rfl, rfl, HF0, HR⟩ := hrel
            clear k0 k1 k2 k3 k4
            obtain ⟨k0, k1, k2, k3, k4⟩ := HR.out.box
            have HVR := Lib.hid (abvia HB7.out HR.out.below)
            obtain ⟨y0, y1, -, -, -⟩ := Y1.out.via HVR.out
            by_cases hgo : k < an ∧ fv = 0
            · obtain ⟨hlt, rfl⟩ := hgo
              have hlt' : (k : Int) < an := by omega
              obtain ⟨oa, fa1, rfl, hca⟩ := (IX.out.via HVR.out).ats.at (show 0 < an by omega)
              obtain ⟨ob, fb1, rfl, hcb⟩ := (IY.out.via HVR.out).ats.at (show 0 < an by omega)
              have d1 := hca k hlt
              have d2 := hcb k hlt
              clear hca hcb
              obtain ⟨xx, HXX⟩ : ∃ x, Hid (a.getD k 0 = x) := ⟨_, rfl⟩
              obtain ⟨yy, HYY⟩ : ∃ x, Hid (b.getD k 0 = x) := ⟨_, rfl⟩
              rw [HXX.out] at d1
              rw [HYY.out] at d2
              obtain ⟨z, HZ⟩ : ∃ v, Hid ((fun i => dyV op (a.getD i 0) (b.getD i 0)) k = v) := ⟨_, rfl⟩
              obtain ⟨ee, HEE⟩ : ∃ v, Hid ((fun i => dyE op (a.getD i 0) (b.getD i 0)) k = v) := ⟨_, rfl⟩
              have HZR : Hid (-9223372036854775808 ≤ z ∧ z ≤ 9223372036854775807) := by show _ ∧ _; rw [← HZ.out]; exact dy_rng op _ _ (HR1.out k) (HR2.out k)
              have CW := Lib.hid (fun n => dyad_any op xx yy (wr.drewN n) (by rw [← HXX.out]; exact HR1.out k) (by rw [← HYY.out]; exact HR2.out k))
              rw [show dyV op xx yy = z by rw [← HXX.out, ← HYY.out]; exact HZ.out, show dyE op xx yy = ee by rw [← HXX.out, ← HYY.out]; exact HEE.out] at CW
              obtain ⟨x0, x1, -, -, -⟩ := X1.out.via HVR.out
              go_wp2_with fail
              go_quiet (with_reducible exact Ret.quiet (CW.out _))
              obtain ⟨wx, HWX⟩ : ∃ wx, Hid (wr.drewN nq = wx) := ⟨_, rfl⟩
              have HBX : Hid (Below wr.heap.size wr wx) := by show Below _ _ _; rw [← HWX.out]; exact adrew _ _
              rw [HWX.out]
              clear d1 d2 x0 x1
              have HRX := Lib.hid (HR.out.next HBX.out)
              obtain ⟨i0, hi, hz0, hz1, hz2⟩ := info_parts (P := Try.prog) (e := 2) (z := .int .i64 0) (size := 1) (bytes := 8) (by kernel_rfl)
              have HO := Lib.hid (own_below HRX.out.own (abal wx (.cells #[.int .i64 z] 2)) (Nat.le_refl _))
              have HLZ := Lib.hid (ls_one wx 2 z HZR.out)
              have hsz : k + 1 ≤ 1000000 := by omega
              have hbx : W7.heap.size + 1 ≤ wx.heap.size := HRX.out.box.lt
              have hbs : W7.heap.size + 1 ≤ (wx.alloc (.cells #[.int .i64 z] 2)).heap.size := by simp; omega
              clear k0 k1 k2 k3 k4
              obtain ⟨k0, k1, k2, k3, k4⟩ := HRX.out.box
              go_wp2_with (at_builtin; refine wpList_append_ls _ rfl _ _ 26 rfl (W7.heap.size + 1) 2 i0 Try.underlying26 hi hz0 hz1 hz2 _ k ((List.range k).map (fun i => dyV op (a.getD i 0) (b.getD i 0))) rfl HO.out rfl HLZ.out hsz hbs ?_)
              intro v' w10 hown hgrow
              obtain ⟨ao', c', rfl⟩ := own_form hown
              have hB10 : Below (W7.heap.size + 1) wx w10 := ((abal wx _).mono hbx).grown hgrow hbs (by intro g hg; exact (own_block HO.out hg).1)
              have HG : Hid (WantI W7 (w10.setCell ⟨W7.heap.size, 1, none⟩ (.slice ao' (k + 1) c')) W7.heap.size (.slice ta tn tc) ao' (k + 1) c' ((List.range (k + 1)).map (fun i => dyV op (a.getD i 0) (b.getD i 0)))) := by
                refine HRX.out.grow (Below.refl _ _) hB10 ?_
                rw [range_map_snoc, HZ.out]
                simpa using hown
              have HF1 : Hid (firE ((List.range (k + 1)).map (fun i => dyE op (a.getD i 0) (b.getD i 0))) = ee) := by show _ = _; rw [fst_step, if_pos HF0.out, HEE.out]
              obtain ⟨q0, q1, q2, q3, q4⟩ := HRX.out.box.below hB10 (Nat.lt_succ_self _)
              clear hown hgrow hsz hbs hbx hB10 k0 k1 k2 k3 k4 y0 y1
              go_wp2
              go_roundw
              case rel => exact ⟨k + 1, ee, ao', c', by omega, rfl, by go_num, HF1, HG⟩
              case measure => simp [RowKit.intOf]; omega
            · by_cases hfv : fv = 0
              · subst hfv
                obtain rfl : k = an := by omega
                have hge : (k : Int) ≤ k := Int.le_refl _
                have h1 : 0 = de := by exact (HFM.out.trans HF0.out).symm
                have hq : decide (ds = s ∧ da = (List.range k).map (fun i => dyV op (a.getD i 0) (b.getD i 0))) = true := by rw [decide_eq_true_eq]; exact HOKM.out (HFM.out.trans HF0.out)
                have CE := Lib.hid (eq_any (w := wr) (A := ⟨sa6, sn6, sc6, aa6, an6, ac6, ds, da⟩) (B := ⟨ta, tn, tc, ao, k, c, s, (List.range k).map (fun i => dyV op (a.getD i 0) (b.getD i 0))⟩) (I7.out.via HR.out.below) (HR.out.arr ((IY.out.via HVR.out).shp) (by omega) (map_range_rng _ _ fun i hi => dy_rng op _ _ (HR1.out i) (HR2.out i))))
                simp only [Ar.v, hq] at CE
                subst h1
                clear hq hgo
                obtain ⟨x0, x1, -, -, -⟩ := X7.out.via HR.out.below
                go_wp2_with fail
                refine CE.out.mono ?_; rintro e w12 ⟨rfl, hb12⟩
                have HB12 := Lib.hid (abvia HVR.out hb12)
                clear hb12
                go_wp2
                go_ret
                exact RetB.mk rfl (abvia HW.out HB12.out)
              · have hf1 : (fv == 0) = false := by simpa using hfv
                have hf2 : (fv != 0) = true := by simpa using hfv
                have h1 : fv = de := by rw [HFM.out, fst_stop _ hk (by rw [HF0.out]; exact hfv), HF0.out]
                have h2 : [] = ds ∧ [] = da := HNIL.out (by omega)
                obtain ⟨h2, h3⟩ := h2
                subst h1 h2 h3
                have HBS : Hid (Below W7.heap.size W7 ((wr.setCell ⟨W7.heap.size, 0, none⟩ (.slice none 0 0)).setCell ⟨W7.heap.size, 1, none⟩ (.slice none 0 0))) := (HR.out.below.setCell (Nat.le_refl _) _).setCell (Nat.le_refl _) _
                have CE := Lib.hid (eq_any (w := (wr.setCell ⟨W7.heap.size, 0, none⟩ (.slice none 0 0)).setCell ⟨W7.heap.size, 1, none⟩ (.slice none 0 0)) (A := ⟨sa6, sn6, sc6, aa6, an6, ac6, [], []⟩) (B := ⟨none, 0, 0, none, 0, 0, [], []⟩) (I7.out.via HBS.out) (Ar.is_nil _))
                simp only [Ar.v, and_self, decide_true] at CE
                obtain ⟨x0, x1, -, -, -⟩ := X7.out.via HBS.out
                go_wp2_with fail
                all_goals
                  refine CE.out.mono ?_; rintro e w12 ⟨rfl, hb12⟩
                  have HB12 := Lib.hid (abvia (abvia HB7.out HBS.out) hb12)
                  clear hb12
                  go_wp2
                  go_ret
                  exact RetB.mk rfl (abvia HW.out HB12.out)
      · have hmx' : (mx != 0) = true := by simpa using hmx
        go_wp2
        go_ret
        exact RetB.mk rfl (abvia HW.out HV6.out)
theorem walkAtomEach {w : World} {op : Int} (hop : -9223372036854775808 ≤ op ∧ op ≤ 9223372036854775807) {X : Ar} (hX : X.Is w) {Y : Ar} (hY : Y.Is w) :
    Calls Try.prog 4 #[.int .i64 op, X.v, Y.v] w (RetB w (.bool true)) := by
  by_cases hm : amE Y.s Y.a = 0
  · exact each_ok hX hY op hm
  · exact each_bad hX hY op hm
end Go.Proofs.Ytadblhnakdkciaa

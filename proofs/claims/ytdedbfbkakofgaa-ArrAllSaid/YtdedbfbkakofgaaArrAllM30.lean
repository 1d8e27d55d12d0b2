/- Contract of abacuslaw3.plays: one call of layer 3, what is handed in lying in two hands. ArrAll: the walk of the statement's function. -/
import Derived.Test.YtdedbfbkakofgaaArrAllM10
import Derived.Test.YtdedbfbkakofgaaArrAllM27
import Derived.Test.YtdedbfbkakofgaaArrAllM29
import Derived.Deep.CutBlock
namespace Go.Proofs.Ytdedbfbkakofgaa
open Go.RowKit Go.Lib
set_option linter.unusedVariables false
set_option linter.unusedSimpArgs false
attribute [local go_sem] alloc_drewN setCell_drewN

theorem mk0_int64 (N : Nat) (hN : N ≤ 1000000) (w : World) : (Instr.makeSlice 50 (.int .i64 0) (.int .i64 (N : Int))).run Try.prog w = .ok (.slice (some ⟨w.heap.size, 0, none⟩) 0 N) (w.alloc (.cells (Array.replicate N (.int .i64 0)) 2)) := by
  obtain ⟨i0, hi, hz0, hz1, hz2⟩ := info_parts (P := Try.prog) (e := 2) (z := .int .i64 0) (size := 1) (bytes := 8) (by kernel_rfl)
  have h := run_make (P := Try.prog) w 50 2 i0 (.int .i64 0) Try.underlying50 hi hz0 .i64 .i64 0 N (by omega) (by omega) (by rw [hz2]; omega) (by omega)
  rw [h]
  have e : madeCells (Value.int .i64 0).cells (((N : Int).toNat) * i0.size) = Array.replicate N (.int .i64 0) := by
    rw [hz1, Nat.mul_one, Int.toNat_natCast]
    exact Array.ext' (by rw [show (Value.int .i64 0).cells = #[.int .i64 0] by rfl, toList_madeCells_one]; simp)
  rw [e]
  simp
theorem lit77 (w : World) (T : TypeId) : Ls (w.alloc (.cells #[.int .i64 (-7), .int .i64 (-7)] T)) (some ⟨w.heap.size, 0, none⟩) 2 2 [-7, -7] := by
  have h := ls_alloc w [-7, -7] T (by simp) (fun i => by match i with | 0 => simp | 1 => simp | i + 2 => simp [List.getD])
  simpa using h
theorem ls_grown {U w3 : World} {row : Option Nat} {q n c : Nat} {zs : List Int} (h : Ls U (some ⟨q, 0, none⟩) n c zs) (hn : 0 < n) (hq : row ≠ some q) (hg : U.grownBy w3 row) : Ls w3 (some ⟨q, 0, none⟩) n c zs := by
  refine ⟨h.len, h.cap, h.big, h.top, fun h0 => ?_, h.rng⟩
  obtain ⟨b, off, e, hlt, hc⟩ := h.mem h0
  cases e
  have hs := hg.size
  exact ⟨_, _, rfl, by omega, fun i hi => (World.cell?_of_block (hg.block _ hlt (fun e => hq e.symm))).trans (hc i hi)⟩
/-- A list that a call holds: in a row of its own, with numbers behind. -/
structure Tail (W wx : World) (T : TypeId) (bo : Option Addr) (n d : Nat) (xs : List Int) : Prop where
  own : wx.ownsRow W.heap.size T 1 (.slice bo n d) n (xs.map (Value.int .i64))
  ne : bo ≠ none
  out : Out (fun k => W.heap.size ≤ k) W wx
theorem getD_app (xs ys : List Int) (i : Nat) : (xs ++ ys).getD i 0 = if i < xs.length then xs.getD i 0 else ys.getD (i - xs.length) 0 := by
  simp only [List.getD, List.getElem?_append]
  split <;> rfl
theorem tlo {W U w3 : World} {row : Option Nat} (hU : Out (fun k => W.heap.size ≤ k) W U) (g : U.grownBy w3 row) (hr : ∀ k, row = some k → W.heap.size ≤ k) : Out (fun k => W.heap.size ≤ k) W w3 := hU.grown g (fun k hk => .inl (hr k hk))
theorem tl_l {W U : World} {v0 : Value} {b1 : Option Addr} {m d1 : Nat} (hU : Out (fun k => W.heap.size ≤ k) W U) (hr : ∀ k, v0.ownBlock = some k → W.heap.size ≤ k) (l1 : ∀ g, (Value.slice b1 m d1).ownBlock = some g → v0.ownBlock = some g ∨ g = U.heap.size) :
    ∀ k, (Value.slice b1 m d1).ownBlock = some k → W.heap.size ≤ k := fun k hk => by
  rcases l1 k hk with h | h
  · exact hr k h
  · rw [h]; exact hU.size
theorem tl_ne {U : World} {v0 : Value} {b1 : Option Addr} {m d1 q : Nat} (hq : q < U.heap.size) (hr : v0.ownBlock ≠ some q) (l1 : ∀ g, (Value.slice b1 m d1).ownBlock = some g → v0.ownBlock = some g ∨ g = U.heap.size) : (Value.slice b1 m d1).ownBlock ≠ some q := fun h => by
  rcases l1 q h with h | h
  · exact hr h
  · omega
set_option maxRecDepth 100000 in
set_option maxHeartbeats 6400000 in
theorem plays3_any {w0 wr : World} {hb gb : Nat} {H G : Hd} (HR0 : RndI w0 wr hb gb H G) {o : Opw} (hI : o.Is w0) :
    Calls Try.prog 21 #[.agg o.cells, .pointer (some ⟨hb, 0, none⟩), .pointer (some ⟨gb, 0, none⟩)] wr (fun e w' => e = .returned (.bool true) ∧ ∃ H' G', RndI w0 w' hb gb H' G') := by
  obtain ⟨kk, X, Y, nn, ii, na, nl, nc, ns⟩ := o
  obtain ⟨sa, sn, sc, aa, an, ac, s, a⟩ := X
  obtain ⟨ta, tn, tc, ba, bn, bc, t, b'⟩ := Y
  simp only [Opw.cells]
  have HR := Lib.hid HR0
  obtain ⟨hIX, hIY, hINS, hnn, hii⟩ := hI
  have HIX := Lib.hid hIX
  have HIY := Lib.hid hIY
  have HNS := Lib.hid hINS
  have HNN := Lib.hid hnn
  have HII := Lib.hid hii
  obtain ⟨W3, HW3⟩ : ∃ z, Hid (wr.alloc (.cells #[.int .i64 kk, .slice sa sn sc, .slice aa an ac, .slice ta tn tc, .slice ba bn bc, .int .i64 nn, .int .i64 ii, .slice na nl nc] 57) = z) := ⟨_, rfl⟩
  have HC3 : Hid (Below wr.heap.size wr W3) := by show Below _ _ _; rw [← HW3.out]; exact abal _ _
  have BO : Hid (BoxN W3 wr.heap.size #[.int .i64 kk, .slice sa sn sc, .slice aa an ac, .slice ta tn tc, .slice ba bn bc, .int .i64 nn, .int .i64 ii, .slice na nl nc]) := by show BoxN _ _ _; rw [← HW3.out]; exact BoxN.new _ _ _
  have S3 : Hid (wr.heap.size < W3.heap.size) := by show _ < _; rw [← HW3.out]; simp
  have HR3 := Lib.hid (HR.out.via HC3.out)
  have CL := Lib.hid (lay_any HIX.out HR3.out.below HR3.out.h)
  simp only [Ar.v] at CL
  rw [HR3.out.eh] at CL
  clear hIX hIY hINS hnn hii HR0
  go_enter Try.func21, Try.ntmps21
  go_wp2_with fail
  rw [HW3.out]
  refine CL.out.mono ?_; rintro e w5 ⟨⟨s1a, s1n, s1c, a1a, a1n, a1c, s1', a1'⟩, rfl, hI5, hs5, ha5, hO5, H', hH1, hH2, hH3, hH4, hH5, hH6⟩
  simp only at hs5 ha5 hH4 hH5
  have hs5' := hs5.symm
  have ha5' := ha5.symm
  subst hs5' ha5'
  simp only [Ar.v]
  have hft := fun j (hj : H.foot j) => HR.out.h.foot_lt hj
  have gft := fun j (hj : G.foot j) => HR.out.g.foot_lt hj
  have HFT := Lib.hid hft
  have GFT := Lib.hid gft
  have s3 := S3.out
  obtain ⟨W6, HW6⟩ : ∃ z, Hid (w5.alloc (.cells #[.slice s1a s1n s1c, .slice a1a a1n a1c] 55) = z) := ⟨_, rfl⟩
  have hal : Below w5.heap.size w5 W6 := by rw [← HW6.out]; exact abal _ _
  have s6 : W6.heap.size = w5.heap.size + 1 := by rw [← HW6.out]; simp
  have S6 := Lib.hid s6
  have X7 : Hid (BoxA W6 w5.heap.size (.slice s1a s1n s1c) (.slice a1a a1n a1c)) := by show BoxA _ _ _ _; rw [← HW6.out]; exact BoxA.new _ _ _ _
  have BO5 : Hid (BoxN w5 wr.heap.size #[.int .i64 kk, .slice sa sn sc, .slice aa an ac, .slice ta tn tc, .slice ba bn bc, .int .i64 nn, .int .i64 ii, .slice na nl nc]) := BO.out.out hO5 (fun h => by have := (hft _ h).2; omega)
  have BO6 : Hid (BoxN W6 wr.heap.size #[.int .i64 kk, .slice sa sn sc, .slice aa an ac, .slice ta tn tc, .slice ba bn bc, .int .i64 nn, .int .i64 ii, .slice na nl nc]) := BO5.out.out (F := fun _ => False) (.of hal) (fun h => h)
  have hw3 := HR3.out.below
  have hb5 : Below w0.heap.size w0 w5 := hw3.trans (hO5.toBelow (fun j hj => (hft j hj).1) hw3.size)
  have hb6 : Below w0.heap.size w0 W6 := abvia hb5 hal
  have hG6 : G.Is w0.heap.size W6 := (HR3.out.g.out hO5 (fun j hj h => HR.out.dis j h hj)).via hal
  have HB6 := Lib.hid hb6
  have CL2 := Lib.hid (lay_any HIY.out hb6 hG6)
  simp only [Ar.v] at CL2
  rw [HR.out.eg] at CL2
  have HO5 := Lib.hid hO5
  have HI6 := Lib.hid (hI5.via hal)
  have HAL := Lib.hid hal
  have J1 := Lib.hid hH1
  have J2 := Lib.hid hH2
  have J3 := Lib.hid (hH3.via hal)
  have J4 := Lib.hid hH4
  have J5 := Lib.hid hH5
  have J6 := Lib.hid hH6
  have J7 : Hid (∀ j, H'.foot j → j < w5.heap.size) := fun j hj => (hH3.foot_lt hj).2
  have S5 : Hid (W3.heap.size ≤ w5.heap.size) := hO5.size
  have p3 : (w5.alloc (.cells #[.slice s1a s1n s1c, .slice a1a a1n a1c] 55)).cell? ⟨wr.heap.size, 3, none⟩ = some (.slice ta tn tc) := by rw [HW6.out]; exact BO6.out.c 3 _ rfl
  have p4 : (w5.alloc (.cells #[.slice s1a s1n s1c, .slice a1a a1n a1c] 55)).cell? ⟨wr.heap.size, 4, none⟩ = some (.slice ba bn bc) := by rw [HW6.out]; exact BO6.out.c 4 _ rfl
  clear hI5 hO5 hH1 hH2 hH3 hH4 hH5 hH6 hft gft hal s6 hw3 hb5 hb6 hG6 s3
  go_wp2_with fail
  rw [HW6.out]
  refine CL2.out.mono ?_; rintro e w7 ⟨⟨s2a, s2n, s2c, a2a, a2n, a2c, s2', a2'⟩, rfl, hI7, hs7, ha7, hO7, G', hG1, hG2, hG3, hG4, hG5, hG6⟩
  simp only at hs7 ha7 hG4 hG5
  have hs7' := hs7.symm
  have ha7' := ha7.symm
  subst hs7' ha7'
  simp only [Ar.v]
  have gft := GFT.out
  have hft := HFT.out
  have s6 := S6.out
  have s5 := S5.out
  have s3 := S3.out
  obtain ⟨W8, HW8⟩ : ∃ z, Hid (w7.alloc (.cells #[.slice s2a s2n s2c, .slice a2a a2n a2c] 55) = z) := ⟨_, rfl⟩
  have hal : Below w7.heap.size w7 W8 := by rw [← HW8.out]; exact abal _ _
  have s8 : W8.heap.size = w7.heap.size + 1 := by rw [← HW8.out]; simp
  have s7 := hO7.size
  have X8 : Hid (BoxA W8 w7.heap.size (.slice s2a s2n s2c) (.slice a2a a2n a2c)) := by show BoxA _ _ _ _; rw [← HW8.out]; exact BoxA.new _ _ _ _
  have Y7 : Hid (BoxA W8 w5.heap.size (.slice s1a s1n s1c) (.slice a1a a1n a1c)) := (hO7.boxA X7.out (fun h => by have := (gft _ h).2; omega)).via hal
  have BO8 : Hid (BoxN W8 wr.heap.size #[.int .i64 kk, .slice sa sn sc, .slice aa an ac, .slice ta tn tc, .slice ba bn bc, .int .i64 nn, .int .i64 ii, .slice na nl nc]) := (BO6.out.out hO7 (fun h => by have := (gft _ h).2; omega)).out (F := fun _ => False) (.of hal) (fun h => h)
  have hf' : ∀ j, H'.foot j → (j < wr.heap.size ∨ W3.heap.size ≤ j) ∧ j < w5.heap.size ∧ w0.heap.size ≤ j ∧ ¬ G.foot j ∧ ¬ j = wr.heap.size := by
    intro j hj
    have h1 := J3.out.foot_lt hj
    have h2 := J7.out j hj
    rcases J2.out j hj with h | h
    · have h3 := hft j h
      exact ⟨.inl h3.2, h2, h1.1, HR.out.dis j h, by omega⟩
    · exact ⟨.inr h, h2, h1.1, fun hg => by have := (gft j hg).2; omega, by omega⟩
  have gf' : ∀ j, G'.foot j → (j < wr.heap.size ∨ W6.heap.size ≤ j) ∧ j < w7.heap.size ∧ w0.heap.size ≤ j ∧ ¬ H'.foot j ∧ ¬ j = wr.heap.size := by
    intro j hj
    have h1 := hG3.foot_lt hj
    rcases hG2 j hj with h | h
    · have h2 := gft j h
      exact ⟨.inl h2.2, h1.2, h1.1, fun hh => (hf' j hh).2.2.2.1 h, by omega⟩
    · exact ⟨.inr h, h1.2, h1.1, fun hh => by have := (hf' j hh).2.1; omega, by omega⟩
  have hH8 : H'.Is w0.heap.size W8 := (J3.out.out hO7 (fun j hj h => (hf' j hj).2.2.2.1 h)).via hal
  have hG8 : G'.Is w0.heap.size W8 := hG3.via hal
  have hb8 : Below w0.heap.size w0 W8 := abvia (HB6.out.trans (hO7.toBelow (fun j hj => (gft j hj).1) HB6.out.size)) hal
  have hF1 : Out G.foot w5 W8 := ((Out.of (F := G.foot) HAL.out).trans hO7 (fun _ _ h => h)).trans (.of hal) (fun _ _ h => h)
  have hB1 : Ar.Is ⟨s1a, s1n, s1c, a1a, a1n, a1c, s, a⟩ W8 := J6.out _ _ hF1 (fun j hj h => (hf' j hj).2.2.2.1 h) (fun j hj h => by have := (gft j h).1; omega)
  have hB2 : Ar.Is ⟨s2a, s2n, s2c, a2a, a2n, a2c, t, b'⟩ W8 := hI7.via hal
  have HRN : Hid (RndI w0 W8 hb gb H' G') := ⟨hH8, hG8, by rw [J1.out, HR.out.eh], by rw [hG1, HR.out.eg], fun j hj h => (gf' j h).2.2.2.1 hj, hb8⟩
  have HNF : Hid (¬ H'.foot wr.heap.size) := fun h => (hf' _ h).2.2.2.2 rfl
  have K4 := Lib.hid hG4
  have K5 := Lib.hid hG5
  have HB1 := Lib.hid hB1
  have HB2 := Lib.hid hB2
  have HX8 := Lib.hid (HIX.out.below hb8 (Nat.le_refl _))
  have HY8 := Lib.hid (HIY.out.below hb8 (Nat.le_refl _))
  have HN8 := Lib.hid (HNS.out.below hb8 (Nat.le_refl _))
  have S8 : Hid (wr.heap.size < W8.heap.size ∧ w5.heap.size < W8.heap.size ∧ w7.heap.size < W8.heap.size) := ⟨by omega, by omega, by omega⟩
  clear hI7 hO7 hG1 hG2 hG3 hG4 hG5 hG6 gft hft s6 s5 s3 hal s8 s7 hf' gf' hH8 hG8 hb8 hF1 hB1 hB2 p3 p4 HR HR3 HFT GFT HO5 J1 J2 J3 J6 J7 X7 BO BO5 BO6 HB6 HI6 HAL CL CL2 HC3 S3 S5 S6 HNS HW3 HW6
  have k0 : (w7.alloc (.cells #[.slice s2a s2n s2c, .slice a2a a2n a2c] 55)).cell? ⟨wr.heap.size, 0, none⟩ = some (.int .i64 kk) := by rw [HW8.out]; exact BO8.out.c 0 _ rfl
  go_upto_block 0 with fail
  rw [HW8.out]
  clear k0
  go_cut [9, 10, 11, 12, 13, 14, 15, 16, 17, 18, 19, 20, 21, 22, 23] from 34 to 200 (fun v9 v10 v11 v12 v13 v14 v15 v16 v17 v18 v19 v20 v21 v22 v23 wx => v9 = .bool true ∧ Hid (Below W8.heap.size W8 wx))
  case first =>
    have Z : Hid (∀ wx, Below W8.heap.size W8 wx → wx.cell? ⟨w5.heap.size, 0, none⟩ = some (.slice s1a s1n s1c) ∧ wx.cell? ⟨w5.heap.size, 1, none⟩ = some (.slice a1a a1n a1c) ∧ wx.cell? ⟨w7.heap.size, 0, none⟩ = some (.slice s2a s2n s2c) ∧ wx.cell? ⟨w7.heap.size, 1, none⟩ = some (.slice a2a a2n a2c)) := fun wx hb =>
      have q1 := Y7.out.below hb Y7.out.lt
      have q2 := X8.out.below hb X8.out.lt
      ⟨q1.c0, q1.c1, q2.c0, q2.c1⟩
    have ZO : Hid (∀ wx, Below W8.heap.size W8 wx → wx.cell? ⟨wr.heap.size, 0, none⟩ = some (.int .i64 kk) ∧ wx.cell? ⟨wr.heap.size, 1, none⟩ = some (.slice sa sn sc) ∧ wx.cell? ⟨wr.heap.size, 2, none⟩ = some (.slice aa an ac) ∧ wx.cell? ⟨wr.heap.size, 3, none⟩ = some (.slice ta tn tc) ∧ wx.cell? ⟨wr.heap.size, 4, none⟩ = some (.slice ba bn bc) ∧ wx.cell? ⟨wr.heap.size, 5, none⟩ = some (.int .i64 nn) ∧ wx.cell? ⟨wr.heap.size, 6, none⟩ = some (.int .i64 ii) ∧ wx.cell? ⟨wr.heap.size, 7, none⟩ = some (.slice na nl nc)) := fun wx hb =>
      have q := BO8.out.out (F := fun _ => False) (.of hb) (fun h => h)
      ⟨q.c 0 _ rfl, q.c 1 _ rfl, q.c 2 _ rfl, q.c 3 _ rfl, q.c 4 _ rfl, q.c 5 _ rfl, q.c 6 _ rfl, q.c 7 _ rfl⟩
    have RF := Below.refl W8.heap.size W8
    have k0 := (ZO.out W8 RF).1
    clear J4 J5 K4 K5 HRN hs5 ha5 hs7 ha7 X8 Y7 BO8 HW8
    have nn1 : s1n = sn := HB1.out.shp.len.symm.trans HX8.out.shp.len
    have nn2 : s2n = tn := HB2.out.shp.len.symm.trans HY8.out.shp.len
    have NE := Lib.hid (And.intro nn1 nn2)
    clear nn1 nn2
    by_cases k1 : kk = 1
    · subst k1
      obtain ⟨v, HV⟩ : ∃ z, Hid (amE s a = z) := ⟨_, rfl⟩
      have E1 : Hid (∀ wx, Below W8.heap.size W8 wx → Calls Try.prog 37 #[.agg #[.slice s1a s1n s1c, .slice a1a a1n a1c]] wx (RetB wx (.int .i64 v))) := fun wx hb => by
        rw [← HV.out]
        exact arrmay_any (HB1.out.below hb (Nat.le_refl _))
      have E2 : Hid (∀ wx, Below W8.heap.size W8 wx → Calls Try.prog 66 #[.agg #[.slice sa sn sc, .slice aa an ac]] wx (RetB wx (.int .i64 v))) := fun wx hb => by
        rw [← HV.out]
        exact rmay3_any (HX8.out.below hb (Nat.le_refl _))
      have hvv : (v == v) = true := by simp
      have hd1 : Below W8.heap.size W8 W8.drew := RF.drew
      obtain ⟨r0, r1, r2, r3⟩ := Z.out W8 RF
      obtain ⟨-, p1, p2, p3, p4, p5, p6, p7⟩ := ZO.out W8 RF
      go_upto_region 6 with fail
      go_region_held3 (fun wx => wx.cell? ⟨w5.heap.size, 0, none⟩ = some (.slice s1a s1n s1c) ∧ wx.cell? ⟨w5.heap.size, 1, none⟩ = some (.slice a1a a1n a1c) ∧ wx.cell? ⟨wr.heap.size, 1, none⟩ = some (.slice sa sn sc) ∧ wx.cell? ⟨wr.heap.size, 2, none⟩ = some (.slice aa an ac)) (go_keep)
        (first
          | (go_at_call 37; (with_reducible refine Calls.mono (E1.out _ ?_) ?_); (assumption); rintro e w2 ⟨rfl, hb2⟩; have hB2 := abvia (w := W8) (by assumption) hb2; clear hb2 k0 r0 r1 r2 r3 p1 p2 p3 p4 p5 p6 p7; obtain ⟨r0, r1, r2, r3⟩ := Z.out w2 hB2; obtain ⟨k0, p1, p2, p3, p4, p5, p6, p7⟩ := ZO.out w2 hB2)
          | (go_at_call 66; (with_reducible refine Calls.mono (E2.out _ ?_) ?_); (assumption); rintro e w2 ⟨rfl, hb2⟩; have hB2 := abvia (w := W8) (by assumption) hb2; clear hb2 k0 r0 r1 r2 r3 p1 p2 p3 p4 p5 p6 p7; obtain ⟨r0, r1, r2, r3⟩ := Z.out w2 hB2; obtain ⟨k0, p1, p2, p3, p4, p5, p6, p7⟩ := ZO.out w2 hB2)
        )
      have HB2 := Lib.hid hB2
      clear hd1
      go_wp2_with fail
      go_meet
      case rel => exact ⟨rfl, HB2⟩
    by_cases k5 : kk = 5
    · subst k5
      obtain ⟨v, HV⟩ : ∃ z, Hid (decide (s = t ∧ a = b') = z) := ⟨_, rfl⟩
      have E1 : Hid (∀ wx, Below W8.heap.size W8 wx → Calls Try.prog 63 #[.agg #[.slice s1a s1n s1c, .slice a1a a1n a1c], .agg #[.slice s2a s2n s2c, .slice a2a a2n a2c]] wx (RetB wx (.bool v))) := fun wx hb => by
        rw [← HV.out]
        exact same_any (HB1.out.below hb (Nat.le_refl _)) (HB2.out.below hb (Nat.le_refl _))
      have E2 : Hid (∀ wx, Below W8.heap.size W8 wx → Calls Try.prog 71 #[.agg #[.slice sa sn sc, .slice aa an ac], .agg #[.slice ta tn tc, .slice ba bn bc]] wx (RetB wx (.bool v))) := fun wx hb => by
        rw [← HV.out]
        exact rsame_any (HX8.out.below hb (Nat.le_refl _)) (HY8.out.below hb (Nat.le_refl _))
      have hvv : (v == v) = true := by simp
      have hd1 : Below W8.heap.size W8 W8.drew := RF.drew
      obtain ⟨r0, r1, r2, r3⟩ := Z.out W8 RF
      obtain ⟨-, p1, p2, p3, p4, p5, p6, p7⟩ := ZO.out W8 RF
      go_upto_region 20 with fail
      go_region_held3 (fun wx => wx.cell? ⟨w5.heap.size, 0, none⟩ = some (.slice s1a s1n s1c) ∧ wx.cell? ⟨w5.heap.size, 1, none⟩ = some (.slice a1a a1n a1c) ∧ wx.cell? ⟨w7.heap.size, 0, none⟩ = some (.slice s2a s2n s2c) ∧ wx.cell? ⟨w7.heap.size, 1, none⟩ = some (.slice a2a a2n a2c) ∧ wx.cell? ⟨wr.heap.size, 1, none⟩ = some (.slice sa sn sc) ∧ wx.cell? ⟨wr.heap.size, 2, none⟩ = some (.slice aa an ac) ∧ wx.cell? ⟨wr.heap.size, 3, none⟩ = some (.slice ta tn tc) ∧ wx.cell? ⟨wr.heap.size, 4, none⟩ = some (.slice ba bn bc)) (go_keep)
        (first
          | (go_at_call 63; (with_reducible refine Calls.mono (E1.out _ ?_) ?_); (assumption); rintro e w2 ⟨rfl, hb2⟩; have hB2 := abvia (w := W8) (by assumption) hb2; clear hb2 k0 r0 r1 r2 r3 p1 p2 p3 p4 p5 p6 p7; obtain ⟨r0, r1, r2, r3⟩ := Z.out w2 hB2; obtain ⟨k0, p1, p2, p3, p4, p5, p6, p7⟩ := ZO.out w2 hB2)
          | (go_at_call 71; (with_reducible refine Calls.mono (E2.out _ ?_) ?_); (assumption); rintro e w2 ⟨rfl, hb2⟩; have hB2 := abvia (w := W8) (by assumption) hb2; clear hb2 k0 r0 r1 r2 r3 p1 p2 p3 p4 p5 p6 p7; obtain ⟨r0, r1, r2, r3⟩ := Z.out w2 hB2; obtain ⟨k0, p1, p2, p3, p4, p5, p6, p7⟩ := ZO.out w2 hB2)
        )
      have HB2 := Lib.hid hB2
      clear hd1
      go_wp2_with fail
      go_meet
      case rel => exact ⟨rfl, HB2⟩
    by_cases k6 : kk = 6
    · subst k6
      obtain ⟨v, HV⟩ : ∃ z, Hid (itE s a = z) := ⟨_, rfl⟩
      have E1 : Hid (∀ wx, Below W8.heap.size W8 wx → Calls Try.prog 65 #[.agg #[.slice s1a s1n s1c, .slice a1a a1n a1c]] wx (RetB wx (.int .i64 v))) := fun wx hb => by
        rw [← HV.out]
        exact items_any (HB1.out.below hb (Nat.le_refl _))
      have E2 : Hid (∀ wx, Below W8.heap.size W8 wx → Calls Try.prog 72 #[.agg #[.slice sa sn sc, .slice aa an ac]] wx (RetB wx (.int .i64 v))) := fun wx hb => by
        rw [← HV.out]
        exact ritems_any (HX8.out.below hb (Nat.le_refl _))
      have hvv : (v == v) = true := by simp
      have hd1 : Below W8.heap.size W8 W8.drew := RF.drew
      obtain ⟨r0, r1, r2, r3⟩ := Z.out W8 RF
      obtain ⟨-, p1, p2, p3, p4, p5, p6, p7⟩ := ZO.out W8 RF
      go_upto_region 22 with fail
      go_region_held3 (fun wx => wx.cell? ⟨w5.heap.size, 0, none⟩ = some (.slice s1a s1n s1c) ∧ wx.cell? ⟨w5.heap.size, 1, none⟩ = some (.slice a1a a1n a1c) ∧ wx.cell? ⟨wr.heap.size, 1, none⟩ = some (.slice sa sn sc) ∧ wx.cell? ⟨wr.heap.size, 2, none⟩ = some (.slice aa an ac)) (go_keep)
        (first
          | (go_at_call 65; (with_reducible refine Calls.mono (E1.out _ ?_) ?_); (assumption); rintro e w2 ⟨rfl, hb2⟩; have hB2 := abvia (w := W8) (by assumption) hb2; clear hb2 k0 r0 r1 r2 r3 p1 p2 p3 p4 p5 p6 p7; obtain ⟨r0, r1, r2, r3⟩ := Z.out w2 hB2; obtain ⟨k0, p1, p2, p3, p4, p5, p6, p7⟩ := ZO.out w2 hB2)
          | (go_at_call 72; (with_reducible refine Calls.mono (E2.out _ ?_) ?_); (assumption); rintro e w2 ⟨rfl, hb2⟩; have hB2 := abvia (w := W8) (by assumption) hb2; clear hb2 k0 r0 r1 r2 r3 p1 p2 p3 p4 p5 p6 p7; obtain ⟨r0, r1, r2, r3⟩ := Z.out w2 hB2; obtain ⟨k0, p1, p2, p3, p4, p5, p6, p7⟩ := ZO.out w2 hB2)
        )
      have HB2 := Lib.hid hB2
      clear hd1
      go_wp2_with fail
      go_meet
      case rel => exact ⟨rfl, HB2⟩
    by_cases k8 : kk = 8
    · subst k8
      obtain ⟨v, HV⟩ : ∃ z, Hid (cmpA ⟨sa, sn, sc, aa, an, ac, s, a⟩ ⟨ta, tn, tc, ba, bn, bc, t, b'⟩ = z) := ⟨_, rfl⟩
      have E1 : Hid (∀ wx, Below W8.heap.size W8 wx → Calls Try.prog 64 #[.agg #[.slice s1a s1n s1c, .slice a1a a1n a1c], .agg #[.slice s2a s2n s2c, .slice a2a a2n a2c]] wx (RetB wx (.int .i64 v))) := fun wx hb => by
        rw [← HV.out]
        have e := acompare_any (HB1.out.below hb (Nat.le_refl _)) (HB2.out.below hb (Nat.le_refl _))
        simp only [cmpA] at e ⊢
        rw [NE.out.1, NE.out.2] at e
        rw [NE.out.1, NE.out.2]
        exact e
      have E2 : Hid (∀ wx, Below W8.heap.size W8 wx → Calls Try.prog 74 #[.agg #[.slice sa sn sc, .slice aa an ac], .agg #[.slice ta tn tc, .slice ba bn bc]] wx (RetB wx (.int .i64 v))) := fun wx hb => by
        rw [← HV.out]
        exact rcompare_any (HX8.out.below hb (Nat.le_refl _)) (HY8.out.below hb (Nat.le_refl _))
      have hvv : (v == v) = true := by simp
      have hd1 : Below W8.heap.size W8 W8.drew := RF.drew
      obtain ⟨r0, r1, r2, r3⟩ := Z.out W8 RF
      obtain ⟨-, p1, p2, p3, p4, p5, p6, p7⟩ := ZO.out W8 RF
      go_upto_region 28 with fail
      go_region_held3 (fun wx => wx.cell? ⟨w5.heap.size, 0, none⟩ = some (.slice s1a s1n s1c) ∧ wx.cell? ⟨w5.heap.size, 1, none⟩ = some (.slice a1a a1n a1c) ∧ wx.cell? ⟨w7.heap.size, 0, none⟩ = some (.slice s2a s2n s2c) ∧ wx.cell? ⟨w7.heap.size, 1, none⟩ = some (.slice a2a a2n a2c) ∧ wx.cell? ⟨wr.heap.size, 1, none⟩ = some (.slice sa sn sc) ∧ wx.cell? ⟨wr.heap.size, 2, none⟩ = some (.slice aa an ac) ∧ wx.cell? ⟨wr.heap.size, 3, none⟩ = some (.slice ta tn tc) ∧ wx.cell? ⟨wr.heap.size, 4, none⟩ = some (.slice ba bn bc)) (go_keep)
        (first
          | (go_at_call 64; (with_reducible refine Calls.mono (E1.out _ ?_) ?_); (assumption); rintro e w2 ⟨rfl, hb2⟩; have hB2 := abvia (w := W8) (by assumption) hb2; clear hb2 k0 r0 r1 r2 r3 p1 p2 p3 p4 p5 p6 p7; obtain ⟨r0, r1, r2, r3⟩ := Z.out w2 hB2; obtain ⟨k0, p1, p2, p3, p4, p5, p6, p7⟩ := ZO.out w2 hB2)
          | (go_at_call 74; (with_reducible refine Calls.mono (E2.out _ ?_) ?_); (assumption); rintro e w2 ⟨rfl, hb2⟩; have hB2 := abvia (w := W8) (by assumption) hb2; clear hb2 k0 r0 r1 r2 r3 p1 p2 p3 p4 p5 p6 p7; obtain ⟨r0, r1, r2, r3⟩ := Z.out w2 hB2; obtain ⟨k0, p1, p2, p3, p4, p5, p6, p7⟩ := ZO.out w2 hB2)
        )
      have HB2 := Lib.hid hB2
      clear hd1
      go_wp2_with fail
      go_meet
      case rel => exact ⟨rfl, HB2⟩
    by_cases k2 : kk = 2
    · subst k2
      have E1 := Lib.hid (fun wx => scalar_any nn wx HNN.out)
      have E2 := Lib.hid (fun wx => rscalar_any nn wx HNN.out)
      have hd1 : Below W8.heap.size W8 W8.drew := RF.drew
      have p5 := (ZO.out W8 RF).2.2.2.2.2.1
      go_upto_region 8 with fail
      go_region_held3 (fun wx => wx.cell? ⟨wr.heap.size, 5, none⟩ = some (.int .i64 nn)) (go_keep)
        (first
          | (go_at_call 40; (with_reducible refine Calls.mono (E1.out _) ?_); rintro e w1 ⟨⟨sa1, sn1, sc1, aa1, an1, ac1, s1, a1⟩, rfl, hI1, hs1, ha1, -, hb1⟩; simp only at hs1 ha1; have hs1' := hs1.symm; have ha1' := ha1.symm; subst hs1' ha1'; simp only [Ar.v]; have hB1 := abvia (w := W8) (by assumption) hb1; clear p5 k0; have p5 := (ZO.out w1 hB1).2.2.2.2.2.1)
          | (go_at_call 67; (with_reducible refine Calls.mono (E2.out _) ?_); rintro e w2 ⟨⟨sa2, sn2, sc2, aa2, an2, ac2, s2, a2⟩, rfl, hI2, hs2, ha2, -, hb2⟩; simp only at hs2 ha2; have hs2' := hs2.symm; have ha2' := ha2.symm; subst hs2' ha2'; simp only [Ar.v]; have hB2 := abvia hB1 hb2; have CE := Lib.hid (eq_any (hI1.below hb2 (Nat.le_refl _)) hI2); simp only [Ar.v, and_self, decide_true] at CE; clear p5; have p5 := (ZO.out w2 hB2).2.2.2.2.2.1)
          | (go_at_call 27; (with_reducible refine Calls.mono CE.out ?_); rintro e w3 ⟨rfl, hb3⟩; have hB3 := abvia hB2 hb3; clear p5; have p5 := (ZO.out w3 hB3).2.2.2.2.2.1)
        )
      have HB3 := Lib.hid hB3
      clear hd1
      go_wp2_with fail
      go_meet
      case rel => exact ⟨rfl, HB3⟩
    by_cases k3 : kk = 3
    · subst k3
      obtain ⟨m, hm⟩ : ∃ m : Nat, min (nl : Int) 5000 = m := ⟨min nl 5000, by omega⟩
      have hm5 : m ≤ 5000 := by omega
      have hmn : (m : Int) ≤ nl := by omega
      have hmc : (m : Int) ≤ nc := by have := HN8.out.cap; omega
      have hm0 : (0 : Int) ≤ m := by omega
      obtain ⟨N, hN⟩ : ∃ N : Nat, (m : Int) + 9 = N := ⟨m + 9, by omega⟩
      have hw9 : IntKind.i64.wrap ((m : Int) + 9) = N := by rw [hN]; exact IntWalk.i64_in _ (by omega)
      have hmk := fun w => mk0_int64 N (by omega) w
      have p7 := (ZO.out W8 RF).2.2.2.2.2.2.2
      have HM5 := Lib.hid hm5
      have HMN : Hid (m ≤ nl) := by show _ ≤ _; omega
      have HNM : Hid (N ≤ 5009) := by show _ ≤ _; omega
      have HMX := Lib.hid hm
      clear k0 hN hm5
      go_upto_region 11 with fail
      try simp only [HMX.out]
      clear hm
      obtain ⟨iW, hiW, hz0W, hz1W, hz2W⟩ := info_parts (P := Try.prog) (e := 2) (z := .int .i64 0) (size := 1) (bytes := 8) (by kernel_rfl)
      obtain ⟨LL, HLL⟩ : ∃ z, Hid (Obj.cells #[.int .i64 (-7), .int .i64 (-7)] 2 = z) := ⟨_, rfl⟩
      have HZ0 := fun (U : World) (hU : W8.heap.size ≤ U.heap.size) => own_shut (own_zeros U 2 N W8.heap.size (by have := HNM.out; omega) hU)
      have HO1 : Hid (((W8.alloc (.cells (Array.replicate N (.int .i64 0)) 2)).drew).ownsRow W8.heap.size 2 1 (.slice (some ⟨W8.heap.size, 0, none⟩) 0 N) 0 []) := (HZ0 W8 (Nat.le_refl _)).drew
      have HO2 : Hid ((((W8.alloc (.cells (Array.replicate N (.int .i64 0)) 2)).alloc (.cells #[.int .i64 (-7), .int .i64 (-7)] 2)).drew).ownsRow W8.heap.size 2 1 (.slice (some ⟨W8.heap.size, 0, none⟩) 0 N) 0 []) := ((HZ0 W8 (Nat.le_refl _)).alloc _).drew
      have HO3 : Hid ((((W8.alloc (.cells #[.int .i64 (-7), .int .i64 (-7)] 2)).alloc (.cells (Array.replicate N (.int .i64 0)) 2)).drew).ownsRow W8.heap.size 2 1 (.slice (some ⟨W8.heap.size + 1, 0, none⟩) 0 N) 0 []) := by
        have h := (HZ0 (W8.alloc (.cells #[.int .i64 (-7), .int .i64 (-7)] 2)) (by simp)).drew
        rw [show (W8.alloc (.cells #[.int .i64 (-7), .int .i64 (-7)] 2)).heap.size = W8.heap.size + 1 by simp] at h
        exact h
      have HLM : Hid (∀ wx, Below W8.heap.size W8 wx → Ls wx na m nc (ns.take m)) := fun wx hb => (HN8.out.take HMN.out).below hb (Nat.le_refl _)
      have HL1 : Hid (Ls ((W8.alloc (.cells (Array.replicate N (.int .i64 0)) 2)).drew) na m nc (ns.take m)) := HLM.out _ ((abal _ _).drew)
      have HL2 : Hid (Ls (((W8.alloc (.cells (Array.replicate N (.int .i64 0)) 2)).alloc (.cells #[.int .i64 (-7), .int .i64 (-7)] 2)).drew) na m nc (ns.take m)) := HLM.out _ ((abvia (abal _ _) (abal _ _)).drew)
      have HL3 : Hid (Ls (((W8.alloc (.cells #[.int .i64 (-7), .int .i64 (-7)] 2)).alloc (.cells (Array.replicate N (.int .i64 0)) 2)).drew) na m nc (ns.take m)) := HLM.out _ ((abvia (abal _ _) (abal _ _)).drew)
      clear HZ0
      have hbd : m * 8 ≤ 140737488355328 := by have := HM5.out; omega
      have hbd2 : (m + 2) * 8 ≤ 140737488355328 := by have := HM5.out; omega
      have HU1 : Hid (Out (fun k => W8.heap.size ≤ k) W8 ((W8.alloc (.cells (Array.replicate N (.int .i64 0)) 2)).drew)) := .of (abal _ _).drew
      have HU2 : Hid (Out (fun k => W8.heap.size ≤ k) W8 (((W8.alloc (.cells (Array.replicate N (.int .i64 0)) 2)).alloc (.cells #[.int .i64 (-7), .int .i64 (-7)] 2)).drew)) := .of (abvia (abal _ _) (abal _ _)).drew
      have HU3 : Hid (Out (fun k => W8.heap.size ≤ k) W8 (((W8.alloc (.cells #[.int .i64 (-7), .int .i64 (-7)] 2)).alloc (.cells (Array.replicate N (.int .i64 0)) 2)).drew)) := .of (abvia (abal _ _) (abal _ _)).drew
      have HR1 : Hid (∀ k, (Value.slice (some ⟨W8.heap.size, 0, none⟩) 0 N).ownBlock = some k → W8.heap.size ≤ k) := fun k hk => by simp [Value.ownBlock] at hk; omega
      have HR3 : Hid (∀ k, (Value.slice (some ⟨W8.heap.size + 1, 0, none⟩) 0 N).ownBlock = some k → W8.heap.size ≤ k) := fun k hk => by simp [Value.ownBlock] at hk; omega
      have HQ2 : Hid ((Value.slice (some ⟨W8.heap.size, 0, none⟩) 0 N).ownBlock ≠ some (W8.heap.size + 1)) := fun hk => by simp [Value.ownBlock] at hk
      have HQ3 : Hid ((Value.slice (some ⟨W8.heap.size + 1, 0, none⟩) 0 N).ownBlock ≠ some W8.heap.size) := fun hk => by simp [Value.ownBlock] at hk
      have HT2 : Hid (Ls (((W8.alloc (.cells (Array.replicate N (.int .i64 0)) 2)).alloc (.cells #[.int .i64 (-7), .int .i64 (-7)] 2)).drew) (some ⟨W8.heap.size + 1, 0, none⟩) 2 2 [-7, -7]) := by
        have h := (lit77 (W8.alloc (.cells (Array.replicate N (.int .i64 0)) 2)) 2).drew 1
        rw [show (W8.alloc (.cells (Array.replicate N (.int .i64 0)) 2)).heap.size = W8.heap.size + 1 by simp] at h
        exact h
      have HT3 : Hid (Ls (((W8.alloc (.cells #[.int .i64 (-7), .int .i64 (-7)] 2)).alloc (.cells (Array.replicate N (.int .i64 0)) 2)).drew) (some ⟨W8.heap.size, 0, none⟩) 2 2 [-7, -7]) := ((lit77 W8 2).via (abal _ _)).drew 1
      have KC : Hid (∀ wx, Out (fun k => W8.heap.size ≤ k) W8 wx → wx.cell? ⟨wr.heap.size, 7, none⟩ = some (.slice na nl nc)) := fun wx ho => (ZO.out wx (ho.toBelow (fun k h => h) (Nat.le_refl _))).2.2.2.2.2.2.2
      go_cut [11] from 59 to 68 (fun v11 wx => ∃ bo d, v11 = .slice bo (m + 2) d ∧ Hid (Tail W8 wx 2 bo (m + 2) d (ns.take m ++ [-7, -7])))
      case first =>
        go_region_held3 (fun wx => wx.cell? ⟨wr.heap.size, 7, none⟩ = some (.slice na nl nc)) (first | go_keep | exact KC.out _ (tlo HU1.out hg1 HR1.out) | exact KC.out _ (tlo (tlo HU1.out hg1 HR1.out) hg2 (tl_l HU1.out HR1.out hl1)) | exact KC.out _ (tlo HU2.out hg1 HR1.out) | exact KC.out _ (tlo (tlo HU2.out hg1 HR1.out) hg2 (tl_l HU2.out HR1.out hl1)) | exact KC.out _ (tlo HU3.out hg1 HR3.out) | exact KC.out _ (tlo (tlo HU3.out hg1 HR3.out) hg2 (tl_l HU3.out HR3.out hl1)) | exact KC.out _ ((tlo HU1.out hg1 HR1.out).alloc _) | exact KC.out _ (tlo ((tlo HU1.out hg1 HR1.out).alloc _) hg2 (tl_l HU1.out HR1.out hl1)))
          (first
          | ((refine step_append_loc0 _ (by rfl) _ _ 50 (by rfl) W8.heap.size 2 iW Try.underlying50 hiW hz0W hz1W hz2W _ (by rfl) HO1.out (by rfl) HL1.out hbd HU1.out.size ?_); intro b1 d1 w3 ho1 hg1 hl1 hn1)
          | ((refine step_append_loc0 _ (by rfl) _ _ 50 (by rfl) W8.heap.size 2 iW Try.underlying50 hiW hz0W hz1W hz2W _ (by rfl) HO2.out (by rfl) HL2.out hbd HU2.out.size ?_); intro b1 d1 w3 ho1 hg1 hl1 hn1)
          | ((refine step_append_loc0 _ (by rfl) _ _ 50 (by rfl) W8.heap.size 2 iW Try.underlying50 hiW hz0W hz1W hz2W _ (by rfl) HO3.out (by rfl) HL3.out hbd HU3.out.size ?_); intro b1 d1 w3 ho1 hg1 hl1 hn1)
          | ((refine step_append_loc _ (by rfl) _ _ 50 (by rfl) W8.heap.size 2 iW Try.underlying50 hiW hz0W hz1W hz2W _ m (ns.take m) (by rfl) (ho1.alloc _) (by rfl) (lit77 _ _) hbd2 (Nat.le_trans HU1.out.size (Nat.le_trans hg1.size (by simp))) ?_); intro b2 d2 w4 ho2 hg2 hl2 hn2)
          | ((refine step_append_loc _ (by rfl) _ _ 50 (by rfl) W8.heap.size 2 iW Try.underlying50 hiW hz0W hz1W hz2W _ m (ns.take m) (by rfl) ho1 (by rfl) (ls_grown HT2.out (by omega) HQ2.out hg1) hbd2 (Nat.le_trans HU2.out.size hg1.size) ?_); intro b2 d2 w4 ho2 hg2 hl2 hn2)
          | ((refine step_append_loc _ (by rfl) _ _ 50 (by rfl) W8.heap.size 2 iW Try.underlying50 hiW hz0W hz1W hz2W _ m (ns.take m) (by rfl) ho1 (by rfl) (ls_grown HT3.out (by omega) HQ3.out hg1) hbd2 (Nat.le_trans HU3.out.size hg1.size) ?_); intro b2 d2 w4 ho2 hg2 hl2 hn2)
          )
        all_goals go_wp2_with fail
        all_goals go_meet
        all_goals first
          | exact ⟨_, _, rfl, ⟨ho2, hn2 (by omega), tlo ((tlo HU1.out hg1 HR1.out).alloc _) hg2 (tl_l HU1.out HR1.out hl1)⟩⟩
          | exact ⟨_, _, rfl, ⟨ho2, hn2 (by omega), tlo (tlo HU2.out hg1 HR1.out) hg2 (tl_l HU2.out HR1.out hl1)⟩⟩
          | exact ⟨_, _, rfl, ⟨ho2, hn2 (by omega), tlo (tlo HU3.out hg1 HR3.out) hg2 (tl_l HU3.out HR3.out hl1)⟩⟩
      case rest =>
        obtain ⟨bo, d, rfl, HT⟩ := hcut
        obtain ⟨g, rfl⟩ := own_at HT.out.own HT.out.ne
        have hbw : Below W8.heap.size W8 wc := HT.out.out.toBelow (fun k h => h) (Nat.le_refl _)
        have hrg : ∀ i, -9223372036854775808 ≤ (ns.take m ++ [-7, -7]).getD i 0 ∧ (ns.take m ++ [-7, -7]).getD i 0 ≤ 9223372036854775807 := fun i => by
          rcases Nat.lt_or_ge i (ns.take m).length with h | h
          · rw [getD_app, if_pos h]
            exact (HLM.out W8 RF).rng i
          · rw [getD_app, if_neg (by omega)]
            match i - (ns.take m).length with
            | 0 => simp
            | 1 => simp
            | q + 2 => simp [List.getD]
        have hlx := ls_of_own HT.out.own (by have := HM5.out; omega) hrg
        have hly : Ls wc (some ⟨g, 0, none⟩) m d (ns.take m) := by
          have h := hlx.take (k := m) (by omega)
          rw [List.take_append_of_le_length (by rw [(HLM.out W8 RF).len]; exact Nat.le_refl _), List.take_take, Nat.min_self] at h
          exact h
        have hlt := (HLM.out W8 RF).len
        obtain ⟨gb', go', ge, glt, gc⟩ := hlx.mem (by omega)
        cases ge
        have c1 := gc m (by omega)
        have c2 := gc (m + 1) (by omega)
        rw [Nat.zero_add, getD_app, if_neg (by omega), hlt, Nat.sub_self] at c1
        rw [Nat.zero_add, getD_app, if_neg (by omega), hlt, Nat.add_sub_cancel_left] at c2
        have c1' : wc.cell? ⟨g, m, none⟩ = some (.int .i64 (-7)) := c1
        have c2' : wc.cell? ⟨g, m + 1, none⟩ = some (.int .i64 (-7)) := c2
        have hmd : (m : Int) ≤ d := by have := hly.cap; omega
        obtain ⟨M1, HM1⟩ : ∃ z, Hid (m + 1 = z) := ⟨_, rfl⟩
        rw [HM1.out] at c2'
        obtain ⟨n2, HN2⟩ : ∃ z, Hid (m + 2 = z) := ⟨_, rfl⟩
        have hw1 : IntKind.i64.wrap ((m : Int) + 1) = M1 := by
          have h1 := HM1.out
          have h2 := HM5.out
          rw [show (m : Int) + 1 = M1 by omega]
          exact IntWalk.i64_in _ (by omega)
        have hb1 : (m : Int) < n2 := by have h1 := HN2.out; omega
        have hb2 : (M1 : Int) < n2 := by have h1 := HN2.out; have h2 := HM1.out; omega
        have hb3 : (0 : Int) ≤ M1 := by omega
        have hb4 : (m : Int) ≤ n2 := by omega
        have HLY := Lib.hid hly
        have KG : Hid (∀ wx, Below wc.heap.size wc wx → wx.cell? ⟨g, m, none⟩ = some (.int .i64 (-7)) ∧ wx.cell? ⟨g, M1, none⟩ = some (.int .i64 (-7))) := fun wx hb => ⟨(hb.cell (p := ⟨g, m, none⟩) glt).trans c1', (hb.cell (p := ⟨g, M1, none⟩) glt).trans c2'⟩
        have HBW := Lib.hid hbw
        rw [HN2.out]
        clear HT hrg hlx hly hlt c1 c2 c1' c2' gc glt hbw HU1 HU2 HU3 HR1 HR3 HQ2 HQ3 HT2 HT3 KC HL1 HL2 HL3 HO1 HO2 HO3 hiW hz0W hz1W hz2W hmk hw9
        obtain ⟨fs, fa, fe, E1, E2⟩ : ∃ fs fa fe, Hid (∀ wx, Below wc.heap.size wc wx → Calls Try.prog 62 #[.slice (some ⟨g, 0, none⟩) m d] wx (MadeE wx fs fa fe)) ∧ Hid (∀ wx, Below W8.heap.size W8 wx → Calls Try.prog 68 #[.slice na m nc] wx (MadeE wx fs fa fe)) := by
          by_cases h : m ≤ 4096
          · exact ⟨_, _, _, fun wx hb => list_ok (HLY.out.below hb (Nat.le_refl _)) h, fun wx hb => rlist_ok (HLM.out wx hb) h⟩
          · exact ⟨_, _, _, fun wx hb => list_big (HLY.out.below hb (Nat.le_refl _)) (Nat.lt_of_not_le h), fun wx hb => rlist_big (HLM.out wx hb) (Nat.lt_of_not_le h)⟩
        have CC1 := Lib.hid (E1.out wc (Below.refl _ _))
        have HRF := Lib.hid RF
        clear E1 RF p7
        go_wp2_with fail
        refine CC1.out.mono ?_; rintro e w1 ⟨⟨sa1, sn1, sc1, aa1, an1, ac1, s1, a1⟩, rfl, hI1, hs1, ha1, -, hy1⟩
        simp only at hs1 ha1
        have hs1' := hs1.symm
        have ha1' := ha1.symm
        subst hs1' ha1'
        simp only [Ar.v]
        obtain ⟨W9, HW9⟩ : ∃ z, Hid (w1.alloc (.cells #[.slice sa1 sn1 sc1, .slice aa1 an1 ac1] 55) = z) := ⟨_, rfl⟩
        have hal : Below w1.heap.size w1 W9 := by rw [← HW9.out]; exact abal _ _
        have hB9 : Below wc.heap.size wc W9 := abvia hy1 hal
        have hB9' : Below W8.heap.size W8 W9 := abvia HBW.out hB9
        have X1 : Hid (BoxA W9 w1.heap.size (.slice sa1 sn1 sc1) (.slice aa1 an1 ac1)) := by show BoxA _ _ _ _; rw [← HW9.out]; exact BoxA.new _ _ _ _
        have I1 := Lib.hid (hI1.below hal (Nat.le_refl _))
        have CC2 := Lib.hid (E2.out W9 hB9')
        have HB9 := Lib.hid hB9
        have g1 : (w1.alloc (.cells #[.slice sa1 sn1 sc1, .slice aa1 an1 ac1] 55)).cell? ⟨wr.heap.size, 7, none⟩ = some (.slice na nl nc) := by rw [HW9.out]; exact (ZO.out W9 hB9').2.2.2.2.2.2.2
        clear hI1 hy1 hal hB9 hB9'
        go_wp2_with fail
        rw [HW9.out]
        refine CC2.out.mono ?_; rintro e w2 ⟨⟨sa2, sn2, sc2, aa2, an2, ac2, s2, a2⟩, rfl, hI2, hs2, ha2, -, hy2⟩
        simp only at hs2 ha2
        have hs2' := hs2.symm
        have ha2' := ha2.symm
        subst hs2' ha2'
        simp only [Ar.v]
        obtain ⟨W10, HW10⟩ : ∃ z, Hid (w2.alloc (.cells #[.slice sa2 sn2 sc2, .slice aa2 an2 ac2] 55) = z) := ⟨_, rfl⟩
        have hal : Below w2.heap.size w2 W10 := by rw [← HW10.out]; exact abal _ _
        have hB10 : Below W9.heap.size W9 W10 := abvia hy2 hal
        have HB10 : Hid (Below wc.heap.size wc W10) := abvia HB9.out hB10
        have X1' := X1.out.below hB10 X1.out.lt
        have X2 : BoxA W10 w2.heap.size (.slice sa2 sn2 sc2) (.slice aa2 an2 ac2) := by rw [← HW10.out]; exact BoxA.new _ _ _ _
        have CE := Lib.hid (eq_any ((I1.out.below hB10 (Nat.le_refl _)).below (adrew1 W10) (Nat.le_refl _)) ((hI2.below hal (Nat.le_refl _)).below (adrew1 W10) (Nat.le_refl _)))
        simp only [Ar.v, and_self, decide_true] at CE
        have hee : (fe == fe) = true := by simp
        have KK : Hid (∀ wx, Below W10.heap.size W10 wx → wx.cell? ⟨w1.heap.size, 0, none⟩ = some (.slice sa1 sn1 sc1) ∧ wx.cell? ⟨w1.heap.size, 1, none⟩ = some (.slice aa1 an1 ac1) ∧ wx.cell? ⟨w2.heap.size, 0, none⟩ = some (.slice sa2 sn2 sc2) ∧ wx.cell? ⟨w2.heap.size, 1, none⟩ = some (.slice aa2 an2 ac2) ∧ wx.cell? ⟨g, m, none⟩ = some (.int .i64 (-7)) ∧ wx.cell? ⟨g, M1, none⟩ = some (.int .i64 (-7)) ∧ wx.cell? ⟨wr.heap.size, 7, none⟩ = some (.slice na nl nc)) := fun wx hb => by
          have b1 := abvia HB10.out hb
          have b2 := abvia HBW.out b1
          have y1 := X1'.below hb X1'.lt
          have y2 := X2.below hb X2.lt
          exact ⟨y1.c0, y1.c1, y2.c0, y2.c1, (KG.out wx b1).1, (KG.out wx b1).2, (ZO.out wx b2).2.2.2.2.2.2.2⟩
        have CE2 : Hid (∀ wx, Below W10.heap.size W10 wx → Calls Try.prog 27 #[.agg #[.slice none 0 0, .slice (some ⟨g, 0, none⟩) m d], .agg #[.slice none 0 0, .slice na m nc]] wx (RetB wx (.bool true))) := fun wx hb => by
          have b1 := abvia HB10.out hb
          have b2 := abvia HBW.out b1
          have h := eq_any (w := wx) (A := ⟨none, 0, 0, some ⟨g, 0, none⟩, m, d, [], ns.take m⟩) (B := ⟨none, 0, 0, na, m, nc, [], ns.take m⟩) ⟨(Ar.is_nil wx).shp, HLY.out.below b1 (Nat.le_refl _)⟩ ⟨(Ar.is_nil wx).shp, HLM.out wx b2⟩
          simp only [Ar.v, and_self, decide_true] at h
          exact h
        have HB10' : Hid (Below W8.heap.size W8 W10) := abvia HBW.out HB10.out
        clear g1 hI2 hy2 hal hB10 X1' X2
        go_upto_region 14 with fail
        rw [HW10.out]
        obtain ⟨t1, t2, t3, t4, t5, t6, t7⟩ := KK.out W10 (Below.refl _ _)
        have hd1 : Below W10.heap.size W10 W10.drew := adrew1 _
        go_region_held3 (fun wx => wx.cell? ⟨w1.heap.size, 0, none⟩ = some (.slice sa1 sn1 sc1) ∧ wx.cell? ⟨w1.heap.size, 1, none⟩ = some (.slice aa1 an1 ac1) ∧ wx.cell? ⟨w2.heap.size, 0, none⟩ = some (.slice sa2 sn2 sc2) ∧ wx.cell? ⟨w2.heap.size, 1, none⟩ = some (.slice aa2 an2 ac2) ∧ wx.cell? ⟨g, m, none⟩ = some (.int .i64 (-7)) ∧ wx.cell? ⟨g, M1, none⟩ = some (.int .i64 (-7)) ∧ wx.cell? ⟨wr.heap.size, 7, none⟩ = some (.slice na nl nc)) (go_keep)
          (first
          | (go_at_call 27; (with_reducible refine Calls.mono CE.out ?_); rintro e w3 ⟨rfl, hy3⟩; have hB3 := abvia hd1 hy3; clear hd1 hy3 t1 t2 t3 t4 t5 t6 t7; obtain ⟨t1, t2, t3, t4, t5, t6, t7⟩ := KK.out w3 hB3)
          | (go_at_call 27; (with_reducible refine Calls.mono (CE2.out _ hB3) ?_); rintro e w4 ⟨rfl, hy4⟩; have hB4 := abvia hB3 hy4; clear hy4 t1 t2 t3 t4 t5 t6 t7; obtain ⟨t1, t2, t3, t4, t5, t6, t7⟩ := KK.out w4 hB4)
          )
        have HB11 := Lib.hid (abvia HB10'.out hB4)
        clear hB3 hB4
        go_wp2_with fail
        go_meet
        case rel => exact ⟨rfl, HB11⟩
    by_cases k4 : kk = 4
    · subst k4
      obtain ⟨fs, fa, fe, E1, E2⟩ : ∃ fs fa fe, Hid (∀ wx, Below W8.heap.size W8 wx → Calls Try.prog 69 #[.slice s1a s1n s1c, .int .i64 nn] wx (MadeE wx fs fa fe)) ∧ Hid (∀ wx, Below W8.heap.size W8 wx → Calls Try.prog 70 #[.slice sa sn sc, .int .i64 nn] wx (MadeE wx fs fa fe)) := by
        by_cases h : mayE s = 0
        · exact ⟨_, _, _, fun wx hb => fill_ok (HB1.out.shp.below hb (Nat.le_refl _)) nn HNN.out h, fun wx hb => rfill_ok (HX8.out.shp.below hb (Nat.le_refl _)) nn HNN.out h⟩
        · exact ⟨_, _, _, fun wx hb => fill_bad (HB1.out.shp.below hb (Nat.le_refl _)) nn h, fun wx hb => rfill_bad (HX8.out.shp.below hb (Nat.le_refl _)) nn h⟩
      obtain ⟨r0, r1, -, -⟩ := Z.out W8 RF
      obtain ⟨-, p1, p2, p3, p4, p5, p6, p7⟩ := ZO.out W8 RF
      have CC1 := Lib.hid (E1.out W8 RF)
      have HRF := Lib.hid RF
      clear E1 RF
      go_wp2_with fail
      refine CC1.out.mono ?_; rintro e w1 ⟨⟨sa1, sn1, sc1, aa1, an1, ac1, s1, a1⟩, rfl, hI1, hs1, ha1, -, hb1⟩
      simp only at hs1 ha1
      have hs1' := hs1.symm
      have ha1' := ha1.symm
      subst hs1' ha1'
      simp only [Ar.v]
      obtain ⟨W9, HW9⟩ : ∃ z, Hid (w1.alloc (.cells #[.slice sa1 sn1 sc1, .slice aa1 an1 ac1] 55) = z) := ⟨_, rfl⟩
      have hal : Below w1.heap.size w1 W9 := by rw [← HW9.out]; exact abal _ _
      have hB9 : Below W8.heap.size W8 W9 := abvia hb1 hal
      have X1 : Hid (BoxA W9 w1.heap.size (.slice sa1 sn1 sc1) (.slice aa1 an1 ac1)) := by show BoxA _ _ _ _; rw [← HW9.out]; exact BoxA.new _ _ _ _
      have I1 := Lib.hid (hI1.below hal (Nat.le_refl _))
      have CC2 := Lib.hid (E2.out W9 hB9)
      have HB9 := Lib.hid hB9
      have g1 : (w1.alloc (.cells #[.slice sa1 sn1 sc1, .slice aa1 an1 ac1] 55)).cell? ⟨wr.heap.size, 1, none⟩ = some (.slice sa sn sc) := by rw [HW9.out]; exact (ZO.out W9 hB9).2.1
      have g2 : (w1.alloc (.cells #[.slice sa1 sn1 sc1, .slice aa1 an1 ac1] 55)).cell? ⟨wr.heap.size, 5, none⟩ = some (.int .i64 nn) := by rw [HW9.out]; exact (ZO.out W9 hB9).2.2.2.2.2.1
      have g3 : (w1.alloc (.cells #[.slice sa1 sn1 sc1, .slice aa1 an1 ac1] 55)).cell? ⟨wr.heap.size, 6, none⟩ = some (.int .i64 ii) := by rw [HW9.out]; exact (ZO.out W9 hB9).2.2.2.2.2.2.1
      clear k0 r0 r1 p1 p2 p3 p4 p5 p6 p7 hI1 hb1 hal hB9
      go_wp2_with fail
      rw [HW9.out]
      refine CC2.out.mono ?_; rintro e w2 ⟨⟨sa2, sn2, sc2, aa2, an2, ac2, s2, a2⟩, rfl, hI2, hs2, ha2, -, hb2⟩
      simp only at hs2 ha2
      have hs2' := hs2.symm
      have ha2' := ha2.symm
      subst hs2' ha2'
      simp only [Ar.v]
      obtain ⟨W10, HW10⟩ : ∃ z, Hid (w2.alloc (.cells #[.slice sa2 sn2 sc2, .slice aa2 an2 ac2] 55) = z) := ⟨_, rfl⟩
      have hal : Below w2.heap.size w2 W10 := by rw [← HW10.out]; exact abal _ _
      have hB10 : Below W9.heap.size W9 W10 := abvia hb2 hal
      have HB10 := Lib.hid (abvia HB9.out hB10)
      have X1' := X1.out.below hB10 X1.out.lt
      have X2 : BoxA W10 w2.heap.size (.slice sa2 sn2 sc2) (.slice aa2 an2 ac2) := by rw [← HW10.out]; exact BoxA.new _ _ _ _
      have CE := Lib.hid (eq_any (I1.out.below hB10 (Nat.le_refl _)) (hI2.below hal (Nat.le_refl _)))
      simp only [Ar.v, and_self, decide_true] at CE
      have hee : (fe == fe) = true := by simp
      have t1 : (w2.alloc (.cells #[.slice sa2 sn2 sc2, .slice aa2 an2 ac2] 55)).cell? ⟨w1.heap.size, 0, none⟩ = some (.slice sa1 sn1 sc1) := by rw [HW10.out]; exact X1'.c0
      have t2 : (w2.alloc (.cells #[.slice sa2 sn2 sc2, .slice aa2 an2 ac2] 55)).cell? ⟨w1.heap.size, 1, none⟩ = some (.slice aa1 an1 ac1) := by rw [HW10.out]; exact X1'.c1
      clear g1 g2 g3 hI2 hb2 hal hB10 X1' X2
      go_wp2_with fail
      rw [HW10.out]
      refine CE.out.mono ?_; rintro e w3 ⟨rfl, hb3⟩
      have HB11 := Lib.hid (abvia HB10.out hb3)
      clear hb3 t1 t2
      go_wp2_with fail
      go_meet
      case rel => exact ⟨rfl, HB11⟩
    by_cases k7 : kk = 7
    · subst k7
      obtain ⟨fs, fa, fe, E1, E2⟩ : ∃ fs fa fe, Hid (∀ wx, Below W8.heap.size W8 wx → Calls Try.prog 39 #[.agg #[.slice s1a s1n s1c, .slice a1a a1n a1c], .int .i64 ii] wx (MadeE wx fs fa fe)) ∧ Hid (∀ wx, Below W8.heap.size W8 wx → Calls Try.prog 73 #[.agg #[.slice sa sn sc, .slice aa an ac], .int .i64 ii] wx (MadeE wx fs fa fe)) := by
        by_cases h : amE s a = 0
        · by_cases h1 : -(itE s a) ≤ ii
          · by_cases h2 : ii < itE s a
            · exact ⟨_, _, _, fun wx hb => item_any (HB1.out.below hb (Nat.le_refl _)) ii h h1 h2, fun wx hb => ritem_any (HX8.out.below hb (Nat.le_refl _)) ii h h1 h2⟩
            · exact ⟨_, _, _, fun wx hb => item_index (HB1.out.below hb (Nat.le_refl _)) ii h (.inr (Int.not_lt.mp h2)), fun wx hb => ritem_index (HX8.out.below hb (Nat.le_refl _)) ii HII.out h (.inr (Int.not_lt.mp h2))⟩
          · exact ⟨_, _, _, fun wx hb => item_index (HB1.out.below hb (Nat.le_refl _)) ii h (.inl (Int.not_le.mp h1)), fun wx hb => ritem_index (HX8.out.below hb (Nat.le_refl _)) ii HII.out h (.inl (Int.not_le.mp h1))⟩
        · exact ⟨_, _, _, fun wx hb => item_bad (HB1.out.below hb (Nat.le_refl _)) ii h, fun wx hb => ritem_bad (HX8.out.below hb (Nat.le_refl _)) ii h⟩
      obtain ⟨r0, r1, -, -⟩ := Z.out W8 RF
      obtain ⟨-, p1, p2, p3, p4, p5, p6, p7⟩ := ZO.out W8 RF
      have CC1 := Lib.hid (E1.out W8 RF)
      have HRF := Lib.hid RF
      clear E1 RF
      go_wp2_with fail
      refine CC1.out.mono ?_; rintro e w1 ⟨⟨sa1, sn1, sc1, aa1, an1, ac1, s1, a1⟩, rfl, hI1, hs1, ha1, -, hb1⟩
      simp only at hs1 ha1
      have hs1' := hs1.symm
      have ha1' := ha1.symm
      subst hs1' ha1'
      simp only [Ar.v]
      obtain ⟨W9, HW9⟩ : ∃ z, Hid (w1.alloc (.cells #[.slice sa1 sn1 sc1, .slice aa1 an1 ac1] 55) = z) := ⟨_, rfl⟩
      have hal : Below w1.heap.size w1 W9 := by rw [← HW9.out]; exact abal _ _
      have hB9 : Below W8.heap.size W8 W9 := abvia hb1 hal
      have X1 : Hid (BoxA W9 w1.heap.size (.slice sa1 sn1 sc1) (.slice aa1 an1 ac1)) := by show BoxA _ _ _ _; rw [← HW9.out]; exact BoxA.new _ _ _ _
      have I1 := Lib.hid (hI1.below hal (Nat.le_refl _))
      have CC2 := Lib.hid (E2.out W9 hB9)
      have HB9 := Lib.hid hB9
      have g1 : (w1.alloc (.cells #[.slice sa1 sn1 sc1, .slice aa1 an1 ac1] 55)).cell? ⟨wr.heap.size, 1, none⟩ = some (.slice sa sn sc) := by rw [HW9.out]; exact (ZO.out W9 hB9).2.1
      have g2 : (w1.alloc (.cells #[.slice sa1 sn1 sc1, .slice aa1 an1 ac1] 55)).cell? ⟨wr.heap.size, 2, none⟩ = some (.slice aa an ac) := by rw [HW9.out]; exact (ZO.out W9 hB9).2.2.1
      have g3 : (w1.alloc (.cells #[.slice sa1 sn1 sc1, .slice aa1 an1 ac1] 55)).cell? ⟨wr.heap.size, 6, none⟩ = some (.int .i64 ii) := by rw [HW9.out]; exact (ZO.out W9 hB9).2.2.2.2.2.2.1
      clear k0 r0 r1 p1 p2 p3 p4 p5 p6 p7 hI1 hb1 hal hB9
      go_wp2_with fail
      rw [HW9.out]
      refine CC2.out.mono ?_; rintro e w2 ⟨⟨sa2, sn2, sc2, aa2, an2, ac2, s2, a2⟩, rfl, hI2, hs2, ha2, -, hb2⟩
      simp only at hs2 ha2
      have hs2' := hs2.symm
      have ha2' := ha2.symm
      subst hs2' ha2'
      simp only [Ar.v]
      obtain ⟨W10, HW10⟩ : ∃ z, Hid (w2.alloc (.cells #[.slice sa2 sn2 sc2, .slice aa2 an2 ac2] 55) = z) := ⟨_, rfl⟩
      have hal : Below w2.heap.size w2 W10 := by rw [← HW10.out]; exact abal _ _
      have hB10 : Below W9.heap.size W9 W10 := abvia hb2 hal
      have HB10 := Lib.hid (abvia HB9.out hB10)
      have X1' := X1.out.below hB10 X1.out.lt
      have X2 : BoxA W10 w2.heap.size (.slice sa2 sn2 sc2) (.slice aa2 an2 ac2) := by rw [← HW10.out]; exact BoxA.new _ _ _ _
      have CE := Lib.hid (eq_any (I1.out.below hB10 (Nat.le_refl _)) (hI2.below hal (Nat.le_refl _)))
      simp only [Ar.v, and_self, decide_true] at CE
      have hee : (fe == fe) = true := by simp
      have t1 : (w2.alloc (.cells #[.slice sa2 sn2 sc2, .slice aa2 an2 ac2] 55)).cell? ⟨w1.heap.size, 0, none⟩ = some (.slice sa1 sn1 sc1) := by rw [HW10.out]; exact X1'.c0
      have t2 : (w2.alloc (.cells #[.slice sa2 sn2 sc2, .slice aa2 an2 ac2] 55)).cell? ⟨w1.heap.size, 1, none⟩ = some (.slice aa1 an1 ac1) := by rw [HW10.out]; exact X1'.c1
      clear g1 g2 g3 hI2 hb2 hal hB10 X1' X2
      go_wp2_with fail
      rw [HW10.out]
      refine CE.out.mono ?_; rintro e w3 ⟨rfl, hb3⟩
      have HB11 := Lib.hid (abvia HB10.out hb3)
      clear hb3 t1 t2
      go_wp2_with fail
      go_meet
      case rel => exact ⟨rfl, HB11⟩
    have q1 : (kk == 1) = false := by simpa using k1
    have q2 : (kk == 2) = false := by simpa using k2
    have q3 : (kk == 3) = false := by simpa using k3
    have q4 : (kk == 4) = false := by simpa using k4
    have q5 : (kk == 5) = false := by simpa using k5
    have q6 : (kk == 6) = false := by simpa using k6
    have q7 : (kk == 7) = false := by simpa using k7
    have q8 : (kk == 8) = false := by simpa using k8
    have HRF := Lib.hid RF
    clear RF k1 k2 k3 k4 k5 k6 k7 k8
    go_wp2_with fail
    go_meet
    case rel => exact ⟨rfl, HRF⟩
  case rest =>
    obtain ⟨rfl, HB9⟩ := hcut
    have HR9 := Lib.hid (HRN.out.via HB9.out)
    have CK := Lib.hid (kept_any HIX.out HR9.out.below HR9.out.h J4.out J5.out)
    simp only [Ar.v] at CK
    rw [HR9.out.eh] at CK
    have BO9 : Hid (BoxN wc wr.heap.size #[.int .i64 kk, .slice sa sn sc, .slice aa an ac, .slice ta tn tc, .slice ba bn bc, .int .i64 nn, .int .i64 ii, .slice na nl nc]) := BO8.out.out (F := fun _ => False) (.of HB9.out) (fun h => h)
    have p1 := BO9.out.c 1 _ rfl
    have p2 := BO9.out.c 2 _ rfl
    go_wp2_with fail
    refine CK.out.mono ?_; rintro e w10 ⟨rfl, hO8, H'', hP1, hP2, hP3⟩
    have hb8 : Below w0.heap.size w0 w10 := HR9.out.below.trans (hO8.toBelow (fun j hj => (HR9.out.h.foot_lt hj).1) HR9.out.below.size)
    have hG8 : G'.Is w0.heap.size w10 := HR9.out.g.out hO8 (fun j hj h => HR9.out.dis j h hj)
    have CK2 := Lib.hid (kept_any HIY.out hb8 hG8 K4.out K5.out)
    simp only [Ar.v] at CK2
    rw [HR9.out.eg] at CK2
    have BO10 : Hid (BoxN w10 wr.heap.size #[.int .i64 kk, .slice sa sn sc, .slice aa an ac, .slice ta tn tc, .slice ba bn bc, .int .i64 nn, .int .i64 ii, .slice na nl nc]) := BO9.out.out hO8 HNF.out
    clear p1 p2
    have p3 := BO10.out.c 3 _ rfl
    have p4 := BO10.out.c 4 _ rfl
    have Q1 := Lib.hid hP1
    have Q2 := Lib.hid hP2
    have Q3 := Lib.hid hP3
    have HG8 := Lib.hid hG8
    have HB8 := Lib.hid hb8
    clear hO8 hb8 hG8 hP1 hP2 hP3
    go_wp2_with fail
    refine CK2.out.mono ?_; rintro e w11 ⟨rfl, hO9, G'', hT1, hT2, hT3⟩
    have HRZ : Hid (RndI w0 w11 hb gb H'' G'') := ⟨Q3.out.out hO9 (fun j hj h => HR9.out.dis j (Q2.out j hj) h), hT3, by rw [Q1.out, HR9.out.eh], by rw [hT1, HR9.out.eg], fun j hj h => HR9.out.dis j (Q2.out j hj) (hT2 j h), HB8.out.trans (hO9.toBelow (fun j hj => (HR9.out.g.foot_lt hj).1) HB8.out.size)⟩
    clear hO9 hT1 hT2 hT3 p3 p4
    go_wp2
    go_ret
    exact ⟨rfl, _, _, HRZ⟩
end Go.Proofs.Ytdedbfbkakofgaa

namespace Go.Proofs.Ytdedbfbkakofgaa
open Go.RowKit Go.Lib
set_option linter.unusedVariables false
set_option linter.unusedSimpArgs false
attribute [local go_sem] alloc_drewN setCell_drewN

set_option maxRecDepth 100000 in
set_option maxHeartbeats 1600000 in
theorem walkArrAll {w : World} {ao : Option Addr} {n c : Nat} {os : Nat → Opw} (hO : Opws w ao n c os) :
    Calls Try.prog 5 #[.slice ao n c] w (RetB w (.bool true)) := by
  have BG := Lib.hid (begun3_any w)
  have hbig := hO.big
  have HOP := Lib.hid hO
  clear hO
  go_enter Try.func5, Try.ntmps5
  go_wp2_with fail
  refine BG.out.mono ?_; rintro e w1 ⟨rfl, hb1⟩
  have HV1 := Lib.hid hb1
  clear hb1
  obtain ⟨W2, HW2⟩ : ∃ z, Hid ((w1.alloc (.cells #[.slice none 0 0, .slice none 0 0] 52)).alloc (.cells #[.slice none 0 0, .slice none 0 0] 52) = z) := ⟨_, rfl⟩
  have HR0 : Hid (RndI w W2 w1.heap.size (w1.heap.size + 1) ⟨w1.heap.size, none, 0, none, 0, [], []⟩ ⟨w1.heap.size + 1, none, 0, none, 0, [], []⟩) := by
    show RndI _ _ _ _ _ _
    rw [← HW2.out]; exact RndI.new _ HV1.out
  go_wp2_with fail
  rw [HW2.out]
  go_loopw [5] (fun i wr => ∃ (k : Nat) (H G : Hd), k ≤ n ∧ i = .int .i64 k ∧ Hid (RndI w wr w1.heap.size (w1.heap.size + 1) H G)) (fun i _ => n - (RowKit.intOf i).toNat)
  case atStart => exact ⟨0, _, _, Nat.zero_le _, rfl, HR0⟩
  case round =>
    clear HR0
    obtain ⟨k, H, G, hk, rfl, HR⟩ := hrel
    by_cases hlt : k < n
    · have hlt' : (k : Int) < n := by omega
      obtain ⟨b, off, rfl, hbl, hcs⟩ := HOP.out.mem (by omega)
      have hck := hcs k hlt
      have CP := Lib.hid (plays3_any HR.out (HOP.out.is k hlt))
      obtain ⟨o, HOK⟩ : ∃ o, Hid (os k = o) := ⟨_, rfl⟩
      rw [HOK.out] at hck CP
      obtain ⟨kk, X, Y, nn, ii, na, nl, nc, ns⟩ := o
      obtain ⟨sa, sn, sc, aa, an, ac, s, a⟩ := X
      obtain ⟨ta, tn, tc, ba, bn, bc, t, b'⟩ := Y
      simp only [Opw.cells] at CP
      have HSC : Hid (∀ j v, (Opw.cells ⟨kk, ⟨sa, sn, sc, aa, an, ac, s, a⟩, ⟨ta, tn, tc, ba, bn, bc, t, b'⟩, nn, ii, na, nl, nc, ns⟩)[j]? = some v → wr.cell? ⟨b, off + (k * 8 + j), none⟩ = some v) := fun j v hj =>
        (HR.out.below.cell (p := ⟨b, off + (k * 8 + j), none⟩) hbl).trans (hck j v hj)
      have d0 : wr.cell? ⟨b, off + k * 8, none⟩ = some (.int .i64 kk) := by exact HSC.out 0 _ rfl
      have d1 : wr.cell? ⟨b, off + k * 8 + 1, none⟩ = some (.slice sa sn sc) := by rw [Nat.add_assoc]; exact HSC.out 1 _ rfl
      have d2 : wr.cell? ⟨b, off + k * 8 + 2, none⟩ = some (.slice aa an ac) := by rw [Nat.add_assoc]; exact HSC.out 2 _ rfl
      have d3 : wr.cell? ⟨b, off + k * 8 + 3, none⟩ = some (.slice ta tn tc) := by rw [Nat.add_assoc]; exact HSC.out 3 _ rfl
      have d4 : wr.cell? ⟨b, off + k * 8 + 4, none⟩ = some (.slice ba bn bc) := by rw [Nat.add_assoc]; exact HSC.out 4 _ rfl
      have d5 : wr.cell? ⟨b, off + k * 8 + 5, none⟩ = some (.int .i64 nn) := by rw [Nat.add_assoc]; exact HSC.out 5 _ rfl
      have d6 : wr.cell? ⟨b, off + k * 8 + 6, none⟩ = some (.int .i64 ii) := by rw [Nat.add_assoc]; exact HSC.out 6 _ rfl
      have d7 : wr.cell? ⟨b, off + k * 8 + 7, none⟩ = some (.slice na nl nc) := by rw [Nat.add_assoc]; exact HSC.out 7 _ rfl
      clear hcs hck HSC
      go_wp2_with fail
      refine CP.out.mono ?_; rintro e w3 ⟨rfl, H', G', hR3⟩
      have HRZ := Lib.hid hR3
      clear hR3 d0 d1 d2 d3 d4 d5 d6 d7
      go_wp2
      go_roundw
      case rel => exact ⟨k + 1, H', G', by omega, by go_num, HRZ⟩
      case measure => simp [RowKit.intOf]; omega
    · have hge : (n : Int) ≤ k := by omega
      go_wp2
      go_ret
      exact RetB.mk rfl HR.out.below
end Go.Proofs.Ytdedbfbkakofgaa

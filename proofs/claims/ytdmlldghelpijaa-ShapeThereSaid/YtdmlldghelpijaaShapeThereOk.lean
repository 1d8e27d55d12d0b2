/- ShapeThere: the walk at a shape that may be. -/
import Derived.Test.YtdmlldghelpijaaShapeThereWalk
namespace Go.Proofs.Ytdmlldghelpijaa
open Go.RowKit Go.Lib Go.Shelf
set_option linter.unusedVariables false
set_option linter.unusedSimpArgs false
attribute [local go_sem] alloc_drewN setCell_drewN
theorem own_bears {base n : Nat} {E : TypeId} {v : Value} {xs : List Value} (B : Nat) : Bears B (fun W => W.ownsRow base E 1 v n xs) := by
  intro W W' row h hg hr
  refine h.kept hg ?_
  cases hv : v.ownBlock with
  | none => exact .inl rfl
  | some g =>
    right
    intro e
    obtain ⟨o, h1, h2⟩ := (hr g e.symm).2
    rcases h.2 with ⟨rfl, _⟩ | ⟨g', cap, cur, rfl, _, hc, _⟩
    · simp [Value.ownBlock] at hv
    · simp [Value.ownBlock] at hv
      subst hv
      rw [hc] at h1; cases h1; simp [Obj.isCells] at h2
/-- What the loop's variables hold between two rounds. -/
structure ThI (w : World) (a1 : Option Addr) (n c1 : Nat) (s : List Int) (N b bn bs : Nat) (qo : Option Addr) (qn qc L : Nat) (k : Nat) (W : World) : Prop where
  below : Below w.heap.size w W
  c0 : W.cell? ⟨w.heap.size, 0, none⟩ = some (.slice a1 n c1)
  k1 : W.cell? ⟨w.heap.size + 1, 0, none⟩ = some (.bool false)
  f1 : W.frozen? ⟨w.heap.size + 1, 0, none⟩ = false
  cn : W.cell? ⟨b, 0, none⟩ = some (.int .i64 N)
  ci : W.cell? ⟨b + 1 + 1, 0, none⟩ = some (.int .i64 k)
  fi : W.frozen? ⟨b + 1 + 1, 0, none⟩ = false
  cl : ∃ lo ln lc, W.cell? ⟨b + 1, 0, none⟩ = some (.slice lo ln lc) ∧ (0 < k → Ls W lo ln lc (ixL s ((k - 1 : Nat) : Int)))
  fl : W.frozen? ⟨b + 1, 0, none⟩ = false
  sq : SeqAt W bn bs qo qn qc s
  lt : w.heap.size + 2 ≤ b ∧ b + 3 ≤ L ∧ L ≤ W.heap.size
  own : W.ownsRow (b + 3) 3 1 (.slice qo qn qc) qn (s.map (Value.int .i64))
theorem thI_bears {w : World} {a1 : Option Addr} {n c1 : Nat} {s : List Int} {N b bn bs : Nat} {qo : Option Addr} {qn qc L B : Nat} (hB : w.heap.size ≤ B) (k : Nat) : Bears B (ThI w a1 n c1 s N b bn bs qo qn qc L k) := by
  intro W W' row h hg hr
  have hr2 : ∀ r, row = some r → ∃ o : Obj, W.heap[r]? = some o ∧ o.isCells = false := fun r e => (hr r e).2
  obtain ⟨lo, ln, lc, h1, h2⟩ := h.cl
  exact ⟨below_bears (Nat.le_refl _) hB W W' row h.below hg hr, cell_kept h.c0 hg hr2, cell_kept h.k1 hg hr2, (frozen_kept h.k1 hg hr2).trans h.f1, cell_kept h.cn hg hr2, cell_kept h.ci hg hr2, (frozen_kept h.ci hg hr2).trans h.fi,
    ⟨lo, ln, lc, cell_kept h1 hg hr2, fun h0 => ls_bears B W W' row (h2 h0) hg hr⟩, (frozen_kept h1 hg hr2).trans h.fl, seqAt_bears B W W' row h.sq hg hr, ⟨h.lt.1, h.lt.2.1, Nat.le_trans h.lt.2.2 hg.size⟩, own_bears B W W' row h.own hg hr⟩
theorem ThI.next {w : World} {a1 : Option Addr} {n c1 : Nat} {s : List Int} {N b bn bs : Nat} {qo : Option Addr} {qn qc L k : Nat} {W W' : World} (h : ThI w a1 n c1 s N b bn bs qo qn qc L k W) (hb : Below W.heap.size W W') : ThI w a1 n c1 s N b bn bs qo qn qc L k W' :=
  (thI_bears (Nat.le_refl _) k).below h hb
theorem ThI.step {w : World} {a1 : Option Addr} {n c1 : Nat} {s : List Int} {N b bn bs : Nat} {qo : Option Addr} {qn qc L k : Nat} {W W0 : World} (h0 : ThI w a1 n c1 s N b bn bs qo qn qc L k W0) (hb : Below W0.heap.size W0 W) {lo : Option Addr} {ln lc : Nat}
    (hO : W.ownsRow W0.heap.size 3 1 (.slice lo ln lc) ln ((ixL s (k : Int)).map (Value.int .i64))) (hL : Ls W lo ln lc (ixL s (k : Int))) (hbs : bs < b ∨ b + 3 ≤ bs) (hbn : bn < b ∨ b + 3 ≤ bn) :
    ThI w a1 n c1 s N b bn bs qo qn qc L (k + 1) ((W.setCell ⟨b + 1, 0, none⟩ (.slice lo ln lc)).setCell ⟨b + 1 + 1, 0, none⟩ (.int .i64 (k + 1 : Nat))) := by
  have h := h0.next hb
  obtain ⟨l1, l2, l3⟩ := h.lt
  have l4 := h0.lt.2.2
  obtain ⟨lo', ln', lc', g1, -⟩ := h.cl
  refine ⟨(h.below.setCell (by dsimp only; omega) _).setCell (by dsimp only; omega) _, ?_, ?_, ?_, ?_, ?_, ?_, ⟨lo, ln, lc, ?_, fun _ => ?_⟩, ?_, ⟨?_, ?_, ls_of_own (ownsRow_setCell_below (ownsRow_setCell_below h.own (by dsimp only; omega) _) (by dsimp only; omega) _) h.sq.ls.big h.sq.ls.rng, by simpa using h.sq.ln, by simpa using h.sq.lb⟩, ⟨l1, l2, by simpa using l3⟩, ownsRow_setCell_below (ownsRow_setCell_below h.own (by dsimp only; omega) _) (by dsimp only; omega) _⟩
  · rw [World.cell?_setCell_far _ _ _ _ (by dsimp only; omega), World.cell?_setCell_far _ _ _ _ (by dsimp only; omega)]; exact h.c0
  · rw [World.cell?_setCell_far _ _ _ _ (by dsimp only; omega), World.cell?_setCell_far _ _ _ _ (by dsimp only; omega)]; exact h.k1
  · rw [World.frozen?_setCell, World.frozen?_setCell]; exact h.f1
  · rw [World.cell?_setCell_far _ _ _ _ (by dsimp only; omega), World.cell?_setCell_far _ _ _ _ (by dsimp only; omega)]; exact h.cn
  · exact World.cell?_setCell_same _ _ _ (u := .int .i64 k) (by rw [World.cell?_setCell_far _ _ _ _ (by dsimp only; omega)]; exact h.ci)
  · rw [World.frozen?_setCell, World.frozen?_setCell]; exact h.fi
  · rw [World.cell?_setCell_far _ _ _ _ (by dsimp only; omega)]; exact World.cell?_setCell_same _ _ _ g1
  · exact ls_of_own (ownsRow_setCell_below (ownsRow_setCell_below hO (by dsimp only; omega) _) (by dsimp only; omega) _) hL.big hL.rng
  · rw [World.frozen?_setCell, World.frozen?_setCell]; exact h.fl
  · rw [World.cell?_setCell_far _ _ _ _ (by dsimp only; omega), World.cell?_setCell_far _ _ _ _ (by dsimp only; omega)]; exact h.sq.cn
  · rw [World.cell?_setCell_far _ _ _ _ (by dsimp only; omega), World.cell?_setCell_far _ _ _ _ (by dsimp only; omega)]; exact h.sq.cs
attribute [local go_sem] Oper.semAt_some
set_option maxRecDepth 100000 in
set_option maxHeartbeats 3200000 in
theorem there_ok {w : World} {a1 : Option Addr} {n c1 : Nat} {s : List Int} (hS : Ls w a1 n c1 s) {a2 : Option Addr} {m c2 : Nat} {t : List Int} (hT : Ls w a2 m c2 t) (hm : mayE s = 0) :
    Calls Try.prog 5 #[.slice a1 n c1, .slice a2 m c2] w (RetB w (.bool true)) := by
  obtain ⟨W, HWW⟩ : ∃ W, Hid ((w.alloc (.cells #[.slice a1 n c1] 25)).alloc (.cells #[.bool false] 4) = W) := ⟨_, rfl⟩
  have hw : Below w.heap.size w W := by rw [← HWW.out]; exact bvia (bal _ _) (bal _ _)
  have hsz : W.heap.size = w.heap.size + 2 := by rw [← HWW.out]; simp
  have x0 : W.cell? ⟨w.heap.size, 0, none⟩ = some (.slice a1 n c1) := by rw [← HWW.out]; simp [go_sem]
  have x1 : W.cell? ⟨w.heap.size + 1, 0, none⟩ = some (.bool false) := by rw [← HWW.out]; simp [go_sem]
  have x2 : W.frozen? ⟨w.heap.size + 1, 0, none⟩ = false := by rw [← HWW.out]; simp [go_sem]
  have BG := Lib.hid (begun2_any W)
  have SS : Hid (∀ W1, Below w.heap.size w W1 → Ls W1 a1 n c1 s) := fun W1 hb => hS.below hb (Nat.le_refl _)
  have TT : Hid (∀ W1, Below w.heap.size w W1 → Ls W1 a2 m c2 t) := fun W1 hb => hT.below hb (Nat.le_refl _)
  have CM := Lib.hid (fun W1 hb => may_any (SS.out W1 hb))
  have CZ := Lib.hid (fun W1 hb => size_any (SS.out W1 hb))
  have CS := Lib.hid (fun W1 hb => all_any (SS.out W1 hb))
  obtain ⟨N, hN⟩ : ∃ N : Nat, szE s = N := by have := szE_bd s; exact ⟨(szE s).toNat, by omega⟩
  have hNb : N ≤ 4096 := by have := szE_bd s; omega
  have hpr : pr s = N := by have h := hN; unfold szE at h; rw [if_pos hm] at h; exact h
  rw [hN, hm] at CZ
  rw [hm] at CM
  have Y : Hid (∀ W1, Below W.heap.size W W1 → W1.cell? ⟨w.heap.size, 0, none⟩ = some (.slice a1 n c1) ∧ W1.cell? ⟨w.heap.size + 1, 0, none⟩ = some (.bool false) ∧ W1.frozen? ⟨w.heap.size + 1, 0, none⟩ = false) := fun W1 hb =>
    ⟨(hb.cell (p := ⟨w.heap.size, 0, none⟩) (by dsimp only; omega)).trans x0, (hb.cell (p := ⟨w.heap.size + 1, 0, none⟩) (by dsimp only; omega)).trans x1, (hb.frozen (p := ⟨w.heap.size + 1, 0, none⟩) (by dsimp only; omega)).trans x2⟩
  have HW := Lib.hid hw
  have SZ := Lib.hid hsz
  have HM := Lib.hid hm
  have HPR := Lib.hid hpr
  have HN := Lib.hid hN
  clear hS hT hm hw hsz x0 x1 x2 hpr hN
  refine (callsIn_wide (n := 6)).1 ?_
  refine callsIn_of_wp_marks Try.func5 rfl trivial ?_ rfl
  simp only [Try.ntmps5, List.size_toArray, List.length_cons, List.length_nil, Nat.reduceAdd, Nat.reduceSub, Array.replicate_succ, Array.replicate_zero, List.push_toArray, List.append_toArray, List.nil_append, List.cons_append]
  gi_wp2_with (refine ⟨trivial, ?_⟩; gi_at_call 13; rw [HWW.out]; refine (callsIn_wide.2 BG.out).mono ?_; rintro e' w1 ⟨rfl, hb1⟩; obtain ⟨r0, r1, r2⟩ := Y.out w1 hb1)
  refine ⟨trivial, (callsIn_wide.2 (CM.out w1 (bvia HW.out hb1))).mono ?_⟩; rintro e' w2 ⟨rfl, hw2⟩
  have hw2' := hw2.symm
  subst hw2'
  have HB1 := Lib.hid hb1
  clear hb1
  gi_wp2_with fail
  refine ⟨trivial, (callsIn_wide.2 (CZ.out w1 (bvia HW.out HB1.out))).mono ?_⟩; rintro e' w2 ⟨rfl, hw2⟩
  have hw2' := hw2.symm
  subst hw2'
  -- the variables n, last, i
  obtain ⟨W2, HW2⟩ : ∃ W2, Hid (((w1.alloc (.cells #[.int .i64 N] 3)).alloc (.cells #[.slice none 0 0] 25)).alloc (.cells #[.int .i64 0] 3) = W2) := ⟨_, rfl⟩
  have HB2 : Hid (Below W.heap.size W W2) := by show Below _ _ _; rw [← HW2.out]; exact bvia (bvia (bvia HB1.out (bal _ _)) (bal _ _)) (bal _ _)
  have s0 : (((w1.alloc (.cells #[.int .i64 N] 3)).alloc (.cells #[.slice none 0 0] 25)).alloc (.cells #[.int .i64 0] 3)).cell? ⟨w.heap.size, 0, none⟩ = some (.slice a1 n c1) := by rw [HW2.out]; exact (Y.out W2 HB2.out).1
  have z0 : W2.cell? ⟨w1.heap.size, 0, none⟩ = some (.int .i64 N) := by rw [← HW2.out]; simp [go_sem]
  have z1 : W2.cell? ⟨w1.heap.size + 1, 0, none⟩ = some (.slice none 0 0) := by rw [← HW2.out]; simp [go_sem]
  have z2 : W2.cell? ⟨w1.heap.size + 2, 0, none⟩ = some (.int .i64 0) := by rw [← HW2.out]; simp [go_sem]
  have z3 : W2.frozen? ⟨w1.heap.size + 1, 0, none⟩ = false := by rw [← HW2.out]; simp [go_sem]
  have z4 : W2.frozen? ⟨w1.heap.size + 2, 0, none⟩ = false := by rw [← HW2.out]; simp [go_sem]
  have hlt2 : W2.heap.size = w1.heap.size + 3 := by rw [← HW2.out]; simp
  have hNi : ¬ (4096 : Int) < N := by omega
  have hNi0 : ¬ (N : Int) < 0 := by omega
  clear r0 r1 r2
  obtain ⟨r0, r1, r2⟩ := Y.out w1 HB1.out
  gi_wp2_with fail
  rw [HW2.out]
  refine ⟨trivial, (callsIn_wide.2 (CS.out W2 (bvia HW.out HB2.out))).mono ?_⟩; rintro e' w3 ⟨bn, bs, qo, qn, qc, rfl, hQ, hbn, hbs, hQO, hb3⟩
  have HB3 : Hid (Below W.heap.size W w3) := bvia HB2.out hb3
  have HBW3 : Hid (Below w.heap.size w w3) := bvia HW.out HB3.out
  have hsz1 := HB1.out.size
  have hsz0 := SZ.out
  have hI0 : ThI w a1 n c1 s N w1.heap.size bn bs qo qn qc w3.heap.size 0 w3 := by
    obtain ⟨y0, y1, y2⟩ := Y.out w3 HB3.out
    refine ⟨HBW3.out, y0, y1, y2, (hb3.cell (p := ⟨w1.heap.size, 0, none⟩) (by dsimp only; omega)).trans z0, (hb3.cell (p := ⟨w1.heap.size + 1 + 1, 0, none⟩) (by dsimp only; omega)).trans z2, (hb3.frozen (p := ⟨w1.heap.size + 1 + 1, 0, none⟩) (by dsimp only; omega)).trans z4,
      ⟨none, 0, 0, (hb3.cell (p := ⟨w1.heap.size + 1, 0, none⟩) (by dsimp only; omega)).trans z1, fun h => absurd h (by omega)⟩, (hb3.frozen (p := ⟨w1.heap.size + 1, 0, none⟩) (by dsimp only; omega)).trans z3, hQ, ⟨by omega, by have := hb3.size; omega, Nat.le_refl _⟩, by rw [← hlt2]; exact hQO⟩
  have HI0 := Lib.hid hI0
  have HBN : Hid (w1.heap.size + 3 ≤ bn ∧ w1.heap.size + 3 ≤ bs) := ⟨by omega, by omega⟩
  have HL := Lib.hid (show w.heap.size ≤ w3.heap.size from HBW3.out.size)
  clear hI0 hQ hbn hbs hQO hb3 z0 z1 z2 z3 z4 hlt2 hsz1 hsz0 r0 r1 r2 s0
  simp only [seqV]
  gi_wp2_with fail
  refine wpIn_range_seq (n := 6) (by omega) (gf := 69) (lb := #[.pointer (some ⟨bn, 0, none⟩), .pointer (some ⟨bs, 0, none⟩)]) rfl (enters_of Try.func69 (by kernel_rfl) rfl) rndV (fun _ => rfl) (RndIs s) N (fun W => SeqAt W bn bs qo qn qc s)
    (fun k W => ThI w a1 n c1 s N w1.heap.size bn bs qo qn qc w3.heap.size k W) (fun _ _ => False) (fun k => thI_bears HL.out k) (fun c W W' row h _ _ => h) (fun k x => rnd_bears _) (fun k W h => h.sq) HI0.out
    (fun l J Jx W hK hJ hY h0 => allseq_in HN.out 5 l (by omega) J Jx W hK hJ hY h0) ?a1 ?assign ?body ?done ?stop
  case assign =>
    intro l x W K hK
    simp [rndV]
    gi_wp2
    exact hK
  case body =>
    intro l k x W hkN hI hx
    obtain ⟨x1, xo, xn, xc⟩ := x
    obtain ⟨hx1, hx2⟩ := hx
    simp only at hx1 hx2
    have hx1' := hx1.symm
    subst hx1'
    have HI := Lib.hid hI
    have HX := Lib.hid hx2
    have hkp : 0 ≤ (k : Int) ∧ (k : Int) < pr s := by rw [HPR.out]; omega
    have CA := Lib.hid (at_any (SS.out W hI.below) k)
    rw [show atL s k = ixL s k by rw [atL, if_pos ⟨HM.out, hkp.1, hkp.2⟩], show atE s k = 0 by rw [atE, if_pos HM.out, if_pos hkp]] at CA
    have CP := Lib.hid (fun W1 (hb : Below W.heap.size W W1) => place_any (SS.out W1 (HI.out.next hb).below) (HX.out.below hb (Nat.le_refl _)))
    obtain ⟨p1, p2⟩ := place_ix HM.out hkp
    rw [p1, p2] at CP
    have r0 := hI.c0
    have ri := hI.ci
    have hk1 : IntKind.i64.wrap ((k : Int) + 1) = k + 1 := IntWalk.i64_in _ (by omega)
    have hk2 : ¬ (N : Int) < k + 1 := by omega
    have hAH : Hid (0 < k → Ahead (ixL s ((k - 1 : Nat) : Int)) (ixL s k)) := fun h0 => by
      obtain ⟨q1, q2, q3⟩ := mayE_zero HM.out
      exact ix_ahead (pos_all q1 (by omega)) (by omega) (by omega) hkp.2
    clear hI hx2 hkp p1 p2
    gi_wp2_with fail
    refine ⟨trivial, (CallsIn.inRound l (callsIn_wide.2 CA.out)).mono ?_⟩; rintro e' v1 ⟨ho, hn, hc, rfl, hLm, -, hbv⟩
    have HV1 := Lib.hid hbv
    have HM1 := Lib.hid hLm
    clear hbv hLm r0 ri
    have r0 := (HI.out.next HV1.out).c0
    have ri := (HI.out.next HV1.out).ci
    gi_wp2_with fail
    refine ⟨trivial, (CallsIn.inRound l (callsIn_wide.2 (CP.out v1 HV1.out))).mono ?_⟩; rintro e' v2 ⟨rfl, hv2⟩
    have hv2' := hv2.symm
    subst hv2'
    have CE := Lib.hid (eqints_any (HX.out.below HV1.out (Nat.le_refl _)) HM1.out)
    simp only [decide_true] at CE
    gi_wp2_with fail
    refine ⟨trivial, (CallsIn.inRound l (callsIn_wide.2 CE.out)).mono ?_⟩; rintro e' v2 ⟨rfl, hv2⟩
    have HV2 : Hid (Below W.heap.size W v2) := by obtain ⟨dn, rfl⟩ := hv2; exact below_drewN HV1.out dn
    clear hv2 r0 ri
    have ri := (HI.out.next HV2.out).ci
    by_cases hk0 : k = 0
    · have hk3 : ¬ (0 : Int) < k := by omega
      have HVN := HV2
      gi_wp2_with fail
      refine ⟨trivial, ?_⟩
      have HV := Lib.hid (show Below W.heap.size W v2 from HVN.out)
      have HIV := Lib.hid (HI.out.next HV.out)
      have HXV := Lib.hid (HX.out.below HV.out (Nat.le_refl _))
      have hszx : (0 + xn) * 8 ≤ 140737488355328 := by have := HXV.out.big; omega
      have hbase := HV.out.size
      obtain ⟨i0, hi, hz0, hz1, hz2⟩ := info_parts (P := Try.prog) (e := 3) (z := .int .i64 0) (size := 1) (bytes := 8) (by kernel_rfl)
      gi_wp2_with (gi_at_builtin; refine wpListIn_append_ls _ rfl _ _ 25 rfl W.heap.size 3 i0 Try.underlying25 hi hz0 hz1 hz2 (.slice none 0 0) 0 [] rfl (World.ownsRow_nil _ _ _ _) rfl HXV.out hszx hbase ?_; intro v' w' hown hgrow; obtain ⟨lo', lc', rfl⟩ := own_form hown; have HW5 : Hid (Below W.heap.size W w') := HV.out.grown hgrow hbase (by intro g hg; simp [Value.ownBlock] at hg); obtain ⟨lo0, ln0, lc0, g1, -⟩ := (HI.out.next HW5.out).cl; have g2 := (HI.out.next HW5.out).fl; have g3 := (HI.out.next HW5.out).ci; have g4 := (HI.out.next HW5.out).fi; have g5 := (HI.out.next HW5.out).cn; have HOW : Hid (w'.ownsRow W.heap.size 3 1 (.slice lo' xn lc') xn ((ixL s (k : Int)).map (Value.int .i64))) := by (show World.ownsRow _ _ _ _ _ _ _; simpa using hown))
      refine ⟨((keeps_of_below HW5.out).trans (KeepsOthers.setCell _ _ _)).trans (KeepsOthers.setCell _ _ _), ?_⟩
      have hstep := HI.out.step HW5.out HOW.out (ls_of_own HOW.out HXV.out.big HXV.out.rng) (.inr HBN.out.2) (.inr HBN.out.1)
      first | (simpa using hstep) | (subst hk0; simpa using hstep)
    · have hk3 : (0 : Int) < k := by omega
      obtain ⟨lo, ln, lc, g1, g2⟩ := (HI.out.next HV2.out).cl
      have CR := Lib.hid (rises_any (g2 (by omega)) (HX.out.below HV2.out (Nat.le_refl _)) (hAH.out (by omega)))
      clear g2
      gi_wp2_with fail
      refine ⟨trivial, (CallsIn.inRound l (callsIn_wide.2 CR.out)).mono ?_⟩; rintro e' v3 ⟨rfl, hv3⟩
      have HVN : Hid (Below W.heap.size W v3) := by obtain ⟨dn, rfl⟩ := hv3; exact below_drewN HV2.out dn
      clear hv3 g1 ri
      have ri := (HI.out.next HVN.out).ci
      have HV := Lib.hid (show Below W.heap.size W v3 from HVN.out)
      have HIV := Lib.hid (HI.out.next HV.out)
      have HXV := Lib.hid (HX.out.below HV.out (Nat.le_refl _))
      have hszx : (0 + xn) * 8 ≤ 140737488355328 := by have := HXV.out.big; omega
      have hbase := HV.out.size
      obtain ⟨i0, hi, hz0, hz1, hz2⟩ := info_parts (P := Try.prog) (e := 3) (z := .int .i64 0) (size := 1) (bytes := 8) (by kernel_rfl)
      gi_wp2_with (gi_at_builtin; refine wpListIn_append_ls _ rfl _ _ 25 rfl W.heap.size 3 i0 Try.underlying25 hi hz0 hz1 hz2 (.slice none 0 0) 0 [] rfl (World.ownsRow_nil _ _ _ _) rfl HXV.out hszx hbase ?_; intro v' w' hown hgrow; obtain ⟨lo', lc', rfl⟩ := own_form hown; have HW5 : Hid (Below W.heap.size W w') := HV.out.grown hgrow hbase (by intro g hg; simp [Value.ownBlock] at hg); obtain ⟨lo0, ln0, lc0, g1, -⟩ := (HI.out.next HW5.out).cl; have g2 := (HI.out.next HW5.out).fl; have g3 := (HI.out.next HW5.out).ci; have g4 := (HI.out.next HW5.out).fi; have g5 := (HI.out.next HW5.out).cn; have HOW : Hid (w'.ownsRow W.heap.size 3 1 (.slice lo' xn lc') xn ((ixL s (k : Int)).map (Value.int .i64))) := by (show World.ownsRow _ _ _ _ _ _ _; simpa using hown))
      refine ⟨((keeps_of_below HW5.out).trans (KeepsOthers.setCell _ _ _)).trans (KeepsOthers.setCell _ _ _), ?_⟩
      have hstep := HI.out.step HW5.out HOW.out (ls_of_own HOW.out HXV.out.big HXV.out.rng) (.inr HBN.out.2) (.inr HBN.out.1)
      first | (simpa using hstep) | (subst hk0; simpa using hstep)
  case done =>
    rintro D W hD hI hKD
    have HI := Lib.hid hI
    have HKD := Lib.hid hKD
    have C1 := Lib.hid (at_any (SS.out W hI.below) N)
    rw [show atL s N = [] by rw [atL, if_neg]; rintro ⟨-, -, h⟩; rw [HPR.out] at h; omega, show atE s N = 13 by rw [atE, if_pos HM.out, if_neg]; rintro ⟨-, h⟩; rw [HPR.out] at h; omega] at C1
    have C2 := Lib.hid (fun W1 (hb : Below W.heap.size W W1) => at_any (SS.out W1 (HI.out.next hb).below) (-1))
    rw [show atL s (-1) = [] by rw [atL, if_neg]; rintro ⟨-, h, -⟩; omega, show atE s (-1) = 13 by rw [atE, if_pos HM.out, if_neg]; rintro ⟨h, -⟩; omega] at C2
    have C3 := Lib.hid (fun W1 (hb : Below W.heap.size W W1) => place_any (SS.out W1 (HI.out.next hb).below) (TT.out W1 (HI.out.next hb).below))
    have C4 := Lib.hid (fun W1 (hb : Below W.heap.size W W1) => at_any (SS.out W1 (HI.out.next hb).below) (plV s t))
    obtain ⟨PV, HPV⟩ : ∃ v, Hid (plV s t = v) := ⟨_, rfl⟩
    obtain ⟨PE, HPE⟩ : ∃ v, Hid (plE s t = v) := ⟨_, rfl⟩
    rw [HPV.out, HPE.out] at C3
    rw [HPV.out] at C4
    have r0 := hI.c0
    have rn := hI.cn
    have ri := hI.ci
    clear hI hKD
    gi_wp2_with fail
    refine ⟨trivial, (callsIn_wide.2 C1.out).mono ?_⟩; rintro e' v1 ⟨ho, hn, hc, rfl, -, -, hb1⟩
    have HV1 := Lib.hid hb1
    clear hb1 r0 rn ri
    have r0 := (HI.out.next HV1.out).c0
    gi_wp2_with fail
    refine ⟨trivial, (callsIn_wide.2 (C2.out v1 HV1.out)).mono ?_⟩; rintro e' v2 ⟨ho2, hn2, hc2, rfl, -, -, hb2⟩
    have HV2 := Lib.hid (bvia HV1.out hb2)
    clear hb2 r0
    have r0 := (HI.out.next HV2.out).c0
    gi_wp2_with fail
    refine ⟨trivial, (callsIn_wide.2 (C3.out v2 HV2.out)).mono ?_⟩; rintro e' v3 ⟨rfl, hv3⟩
    have hv3' := hv3.symm
    subst hv3'
    gi_wp2_with fail
    refine ⟨trivial, (callsIn_wide.2 (C4.out v2 HV2.out)).mono ?_⟩; rintro e' v4 ⟨bo, bln, bc, rfl, hLB, -, hb4⟩
    have HV4 := Lib.hid (bvia HV2.out hb4)
    clear hb4 r0
    have rn := (HI.out.next HV4.out).cn
    have ri := (HI.out.next HV4.out).ci
    by_cases hp : PE = 0
    · obtain ⟨q1, q2⟩ := at_place (s := s) (t := t) (by rw [HPE.out]; exact hp)
      rw [HPV.out] at q1 q2
      rw [q2] at hLB
      rw [q1]
      have CE := Lib.hid (eqints_any hLB (TT.out v4 (HI.out.next HV4.out).below))
      simp only [decide_true] at CE
      subst hp
      clear q1 q2 hLB
      gi_wp2_with fail
      refine ⟨trivial, (callsIn_wide.2 CE.out).mono ?_⟩; rintro e' v5 ⟨rfl, hv5⟩
      have HV5 : Hid (Below W.heap.size W v5) := by obtain ⟨dn, rfl⟩ := hv5; exact below_drewN HV4.out dn
      clear hv5 rn ri
      have HFV := Lib.hid (show Below W.heap.size W v5 from HV5.out)
      have HIF := Lib.hid (HI.out.next HFV.out)
      have HKF : Hid (v5.heap[D]? = some (.deferred (some []))) := (keeps_of_below HFV.out).same D _ HKD.out rfl
      have f1 := HIF.out.k1
      have f2 := HIF.out.f1
      gi_wp2
      have hK' := (KeepsOthers.setCell v5 ⟨w.heap.size + 1, 0, none⟩ (.bool true)).same D _ HKF.out rfl
      refine ⟨by simp, .inl ⟨_, _, rfl, run_takeDeferred hK', ?_⟩⟩
      have hc5 := cell_kept (World.cell?_setCell_same' v5 ⟨w.heap.size + 1, 0, none⟩ (.bool true) (by rw [f1]; rfl)) (grownBy_putObj' _ D (.deferred none)) (fun r e => by cases e; exact ⟨_, hK', rfl⟩)
      refine ⟨.bool true, ?_, rfl, (HIF.out.below.setCell (by dsimp only; omega) _).trans (belowK_b (w := w) (Nat.le_refl _) _ D _ _ (by have := HL.out; omega) hK' rfl rfl)⟩
      simp [results, Try.f5, go_sem, hc5]
    · have hp1 : (PE != 0) = true := by simpa using hp
      have hp2 : (PE == 0) = false := by simpa using hp
      clear hLB
      gi_wp2_with fail
      all_goals first | (intro h0; exact absurd ‹some undef = some (Value.bool _)› (by simp [undef])) | (exact absurd ‹some undef = some (Value.bool _)› (by simp [undef])) | skip
      · refine ⟨trivial, ?_⟩
        clear rn ri
        have HFV := Lib.hid (show Below W.heap.size W v4 from HV4.out)
        have HIF := Lib.hid (HI.out.next HFV.out)
        have HKF : Hid (v4.heap[D]? = some (.deferred (some []))) := (keeps_of_below HFV.out).same D _ HKD.out rfl
        have f1 := HIF.out.k1
        have f2 := HIF.out.f1
        gi_wp2
        have hK' := (KeepsOthers.setCell v4 ⟨w.heap.size + 1, 0, none⟩ (.bool true)).same D _ HKF.out rfl
        refine ⟨by simp, .inl ⟨_, _, rfl, run_takeDeferred hK', ?_⟩⟩
        have hc5 := cell_kept (World.cell?_setCell_same' v4 ⟨w.heap.size + 1, 0, none⟩ (.bool true) (by rw [f1]; rfl)) (grownBy_putObj' _ D (.deferred none)) (fun r e => by cases e; exact ⟨_, hK', rfl⟩)
        refine ⟨.bool true, ?_, rfl, (HIF.out.below.setCell (by dsimp only; omega) _).trans (belowK_b (w := w) (Nat.le_refl _) _ D _ _ (by have := HL.out; omega) hK' rfl rfl)⟩
        simp [results, Try.f5, go_sem, hc5]
  case stop =>
    rintro D c W _ h _
    exact h.elim
theorem walkShapeThere {w : World} {a1 : Option Addr} {n c1 : Nat} {s : List Int} (hS : Ls w a1 n c1 s) {a2 : Option Addr} {m c2 : Nat} {t : List Int} (hT : Ls w a2 m c2 t) :
    Calls Try.prog 5 #[.slice a1 n c1, .slice a2 m c2] w (RetB w (.bool true)) := by
  by_cases hm : mayE s = 0
  · exact there_ok hS hT hm
  · exact there_bad hS hT hm
end Go.Proofs.Ytdmlldghelpijaa

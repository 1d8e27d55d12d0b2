/- ShapeCuts: the walk of the statement's function. -/
import Derived.Test.YtdmlldghelpijaaShapeBegun
import Derived.Test.YtdmlldghelpijaaAppend
namespace Go.Proofs.Ytdmlldghelpijaa
open Go.RowKit Go.Lib
set_option linter.unusedVariables false
set_option linter.unusedSimpArgs false
attribute [local go_sem] alloc_drewN setCell_drewN

theorem ag_pre (s : List Int) (q : Nat) (h : q ≤ s.length) : agL (s.take q) s = s ∧ agE (s.take q) s = 0 ∧ agL s (s.take q) = s ∧ agE s (s.take q) = 0 := by
  have hl : (s.take q).length = q := by simp; omega
  unfold agL agE
  rw [hl]
  by_cases hq : q < s.length
  · simp [hq, show ¬ s.length < q by omega]
  · have e : q = s.length := by omega
    subst e
    simp
theorem ag_comm (s t : List Int) : agL s t = agL t s ∧ agE s t = agE t s := by
  unfold agL agE
  rcases Nat.lt_trichotomy s.length t.length with h | h | h
  · simp [h, show ¬ t.length < s.length by omega]
  · have e1 : s.take t.length = s := List.take_of_length_le (by omega)
    have e2 : t.take s.length = t := List.take_of_length_le (by omega)
    simp only [show ¬ s.length < t.length by omega, show ¬ t.length < s.length by omega, if_false, e1, e2]
    by_cases e : s = t
    · subst e; simp
    · have e' : ¬ t = s := fun h => e h.symm
      simp [e, e']
  · simp [h, show ¬ s.length < t.length by omega]
theorem ag_no {s t : List Int} (h : agE s t ≠ 0) : agE s t = 11 ∧ agL s t = [] := by
  unfold agL agE at *
  by_cases h1 : s.length < t.length
  · simp only [if_pos h1] at *; by_cases h2 : t.take s.length = s <;> simp [h2] at h ⊢
  · simp only [if_neg h1] at *; by_cases h2 : s.take t.length = t <;> simp [h2] at h ⊢
theorem ag_yes {s t : List Int} (h : agE s t = 0) : (agL s t).length = max s.length t.length ∧ (agL s t).take s.length = s ∧ (agL s t).take t.length = t := by
  unfold agL agE at *
  by_cases h1 : s.length < t.length
  · simp only [if_pos h1] at *
    by_cases h2 : t.take s.length = s
    · simp only [if_pos h2]
      exact ⟨by omega, h2, List.take_length⟩
    · simp [h2] at h
  · simp only [if_neg h1] at *
    by_cases h2 : s.take t.length = t
    · simp only [if_pos h2]
      exact ⟨by omega, List.take_length, h2⟩
    · simp [h2] at h
set_option maxRecDepth 100000 in
set_option maxHeartbeats 1600000 in
theorem cuts_a {w : World} {a1 : Option Addr} {n c1 : Nat} {s : List Int} (hS : Ls w a1 n c1 s) {r : Int} (hr : -9223372036854775808 ≤ r ∧ r ≤ 9223372036854775807) {a2 : Option Addr} {m c2 : Nat} {t : List Int} (hT : Ls w a2 m c2 t) (hcase : 0 ≤ r ∧ r < n) :
    Calls Try.prog 6 #[.slice a1 n c1, .int .i64 r, .slice a2 m c2] w (RetB w (.bool true)) := by
  have BG := Lib.hid (begun2_any w)
  have hl := hS.len
  have hb := hS.big
  have hm := hT.len
  have hmb := hT.big
  obtain ⟨q, hq⟩ : ∃ q, q = spN n r := ⟨_, rfl⟩
  have hqn : q ≤ n := by rw [hq]; unfold spN; split <;> (try split) <;> omega
  obtain ⟨d, hd⟩ : ∃ d, d = n - q := ⟨_, rfl⟩
  have hdr : (d : Int) = r := by rw [hd, hq]; unfold spN; rw [if_neg (by omega)]; omega
  have u1 : decide (r < (d : Int)) = false := by simp; omega
  have u2 : decide (r < 0) = false := by simp; omega
  have u4 : ¬ (n : Int) ≤ r := by omega
  have hag := ag_pre s q (by omega)
  have hco := ag_comm s t
  have CS := Lib.hid (fun w1 (hB : Below w.heap.size w w1) => split_any (hS.below hB (Nat.le_refl _)) r hr)
  rw [← hq] at CS
  have CA1 := Lib.hid (fun w1 (hB : Below w.heap.size w w1) ao nn cc (hL : Ls w1 ao nn cc (s.take q)) => agree_any hL (hS.below hB (Nat.le_refl _)))
  have CA2 := Lib.hid (fun w1 (hB : Below w.heap.size w w1) ao nn cc (hL : Ls w1 ao nn cc (s.take q)) => agree_any (hS.below hB (Nat.le_refl _)) hL)
  have CA3 := Lib.hid (fun w1 (hB : Below w.heap.size w w1) => agree_any (hS.below hB (Nat.le_refl _)) (hT.below hB (Nat.le_refl _)))
  have CA4 := Lib.hid (fun w1 (hB : Below w.heap.size w w1) => agree_any (hT.below hB (Nat.le_refl _)) (hS.below hB (Nat.le_refl _)))
  rw [hag.1, hag.2.1] at CA1
  rw [hag.2.2.1, hag.2.2.2] at CA2
  rw [← hco.1, ← hco.2] at CA4
  have HS := Lib.hid hS
  have HT := Lib.hid hT
  have HQ := Lib.hid hqn
  have HD := Lib.hid hd
  have HLS := Lib.hid hl
  have HLT := Lib.hid hm
  have HBB := Lib.hid hb
  clear hS hT hag hco hq hqn hd hl hm
  go_enter Try.func6, Try.ntmps6
  go_wp2_with fail
  refine BG.out.mono ?_; rintro e w1 ⟨rfl, hb1⟩
  have HB1 := Lib.hid hb1
  clear hb1
  go_wp2_with fail
  refine (CS.out w1 HB1.out).mono ?_; rintro e w2 ⟨fo, fn, fc, eo, en, ec, rfl, hL1, hL2, -, -, -, hb2⟩
  have HB2 : Hid (Below w.heap.size w w2) := bvia HB1.out hb2
  have e1 : fn = q := by have h := hL1.len; rw [← h]; simp; have := HQ.out; have := HLS.out; omega
  have e2 : en = d := by have h := hL2.len; rw [← h]; simp; have := HD.out; have := HLS.out; omega
  subst e1 e2
  have F1 := Lib.hid hL1
  have F2 := Lib.hid hL2
  clear hL1 hL2 hb2
  obtain ⟨i0, hi, hz0, hz1, hz2⟩ := info_parts (P := Try.prog) (e := 3) (z := .int .i64 0) (size := 1) (bytes := 8) (by kernel_rfl)
  have hsz1 : (0 + fn) * 8 ≤ 140737488355328 := by have := F1.out.big; omega
  go_wp2_with (at_builtin; refine wpList_append_big _ rfl _ _ 25 rfl w2.heap.size 3 i0 Try.underlying25 hi hz0 hz1 hz2 (.slice none 0 0) 0 [] rfl (World.ownsRow_nil _ _ _ _) rfl F1.out hsz1 (Nat.le_refl _) ?_)
  intro v3 w3 hown3 hgrow3
  have HB3 : Hid (Below w2.heap.size w2 w3) := (Below.refl _ _).grown hgrow3 (Nat.le_refl _) (by intro g hg; simp [Value.ownBlock] at hg)
  have F2' := Lib.hid (F2.out.below HB3.out (Nat.le_refl _))
  have hsz2 : (fn + en) * 8 ≤ 140737488355328 := by have := HD.out; have := HQ.out; omega
  have HO3 : Hid (w3.ownsRow w2.heap.size 3 1 v3 fn ((s.take fn).map (Value.int .i64))) := by show World.ownsRow _ _ _ _ _ _ _; simpa using hown3
  clear hown3 hgrow3 hsz1
  go_wp2_with (at_builtin; refine wpList_append_big _ rfl _ _ 25 rfl w2.heap.size 3 i0 Try.underlying25 hi hz0 hz1 hz2 v3 fn (s.take fn) rfl HO3.out rfl F2'.out hsz2 HB3.out.size ?_)
  intro v4 w4 hown4 hgrow4
  have HB4 : Hid (Below w2.heap.size w2 w4) := HB3.out.grown hgrow4 HB3.out.size (by intro g hg; exact (own_block HO3.out hg).1)
  obtain ⟨vo, vc, rfl⟩ := own_form hown4
  have HL4 : Hid (Ls w4 vo (fn + en) vc s) := by
    have h : w4.ownsRow w2.heap.size 3 1 (.slice vo (fn + en) vc) (fn + en) (s.map (Value.int .i64)) := by
      have h2 : s.take fn ++ s.drop fn = s := List.take_append_drop _ _
      rw [← h2]
      simpa using hown4
    exact ls_of_own h (by have := HD.out; have := HQ.out; omega) HS.out.rng
  have HBW4 : Hid (Below w.heap.size w w4) := HB2.out.trans (HB4.out.mono HB2.out.size)
  have CE1 := Lib.hid (eqints_any HL4.out (HS.out.below HBW4.out (Nat.le_refl _)))
  simp only [decide_true] at CE1
  clear hown4 hgrow4 hsz2 hi hz0 hz1 hz2
  go_wp2_with fail
  refine CE1.out.mono ?_; rintro e w5 ⟨rfl, hw5⟩
  have HB5 : Hid (Below w2.heap.size w2 w5) := by obtain ⟨dn, rfl⟩ := hw5; exact below_drewN HB4.out dn
  have HBW5 : Hid (Below w.heap.size w w5) := HB2.out.trans (HB5.out.mono HB2.out.size)
  have F5 := Lib.hid (F1.out.below HB5.out (Nat.le_refl _))
  have dl : (en : Int) ≤ n := by have := HD.out; omega
  clear hw5
  have hen : ¬ r < (en : Int) := by omega
  go_wp2_with fail
  refine (CA1.out w5 HBW5.out fo fn fc F5.out).mono ?_; rintro e w6 ⟨xo, xn, xc, rfl, hX, -, hb6⟩
  have HB6 : Hid (Below w5.heap.size w5 w6) := hb6
  have HBW6 : Hid (Below w.heap.size w w6) := bvia HBW5.out hb6
  have HX := Lib.hid hX
  clear hX hb6
  go_wp2_with fail
  refine (CA2.out w6 HBW6.out fo fn fc (F5.out.below HB6.out (Nat.le_refl _))).mono ?_; rintro e w7 ⟨yo, yn, yc, rfl, hY, -, hb7⟩
  have HBW7 : Hid (Below w.heap.size w w7) := bvia HBW6.out hb7
  have CE2 := Lib.hid (eqints_any (HX.out.below hb7 (Nat.le_refl _)) (HS.out.below HBW7.out (Nat.le_refl _)))
  simp only [decide_true] at CE2
  have HY := Lib.hid hY
  clear hY hb7
  go_wp2_with fail
  refine CE2.out.mono ?_; rintro e w8 ⟨rfl, hw8⟩
  have HB8 : Hid (Below w7.heap.size w7 w8) := by obtain ⟨dn, rfl⟩ := hw8; exact below_drewN (Below.refl _ _) dn
  have HBW8 : Hid (Below w.heap.size w w8) := bvia HBW7.out HB8.out
  have CE3 := Lib.hid (eqints_any (HY.out.below HB8.out (Nat.le_refl _)) (HS.out.below HBW8.out (Nat.le_refl _)))
  simp only [decide_true] at CE3
  clear hw8
  go_wp2_with fail
  refine CE3.out.mono ?_; rintro e w9 ⟨rfl, hw9⟩
  have HBW9 : Hid (Below w.heap.size w w9) := by obtain ⟨dn, rfl⟩ := hw9; exact below_drewN HBW8.out dn
  clear hw9
  obtain ⟨R, HR⟩ : ∃ R, Hid (agE s t = R) := ⟨_, rfl⟩
  rw [HR.out] at CA3 CA4
  go_wp2_with fail
  refine (CA3.out w9 HBW9.out).mono ?_; rintro e w10 ⟨po, pn, pc, rfl, hP, -, hb10⟩
  have HBW10 : Hid (Below w.heap.size w w10) := bvia HBW9.out hb10
  have HP := Lib.hid hP
  clear hP hb10
  go_wp2_with fail
  refine (CA4.out w10 HBW10.out).mono ?_; rintro e w11 ⟨zo, zn, zc, rfl, hZ, -, hb11⟩
  have HBW11 : Hid (Below w.heap.size w w11) := bvia HBW10.out hb11
  have HP11 := Lib.hid (HP.out.below hb11 (Nat.le_refl _))
  have CE4 := Lib.hid (eqints_any HP11.out hZ)
  simp only [decide_true] at CE4
  clear hZ hb11
  go_wp2_with fail
  refine CE4.out.mono ?_; rintro e w12 ⟨rfl, hw12⟩
  have HB12 : Hid (Below w11.heap.size w11 w12) := by obtain ⟨dn, rfl⟩ := hw12; exact below_drewN (Below.refl _ _) dn
  have HBW12 : Hid (Below w.heap.size w w12) := bvia HBW11.out HB12.out
  clear hw12
  by_cases hg : ¬ R = 0
  · obtain ⟨g1, g2⟩ := ag_no (s := s) (t := t) (by rw [HR.out]; exact hg)
    obtain rfl : R = 11 := by rw [← HR.out]; exact g1
    have hpn : pn = 0 := by have h := HP.out.len; rw [g2] at h; exact h.symm
    subst hpn
    clear g1 g2
    go_wp2
    go_ret
    exact RetB.mk (boolv (by first | rfl | simp)) HBW12.out
  · obtain rfl : R = 0 := by simpa using hg
    obtain ⟨g1, g2, g3⟩ := ag_yes HR.out
    have HP12 := Lib.hid (HP11.out.below HB12.out (Nat.le_refl _))
    have hpm : max (n : Int) m = pn := by have h := HP.out.len; rw [g1, HLS.out, HLT.out] at h; omega
    have hpc := HP.out.cap
    have hpb := HP.out.big
    have hn1 : n ≤ pn := by omega
    have hm1 : m ≤ pn := by omega
    have CE5 := Lib.hid (eqints_any (HP12.out.take hn1) (HS.out.below HBW12.out (Nat.le_refl _)))
    rw [show (agL s t).take n = s by rw [← HLS.out]; exact g2] at CE5
    have CE6 := Lib.hid (fun w13 (hb : Below w12.heap.size w12 w13) => eqints_any ((HP12.out.take hm1).below hb (Nat.le_refl _)) (HT.out.below (bvia HBW12.out hb) (Nat.le_refl _)))
    rw [show (agL s t).take m = t by rw [← HLT.out]; exact g3] at CE6
    simp only [decide_true] at CE5 CE6
    have v1 : (n : Int) ≤ pc := by omega
    have v2 : (m : Int) ≤ pc := by omega
    clear g1 g2 g3 hpc hn1 hm1
    go_wp2_with fail
    refine CE5.out.mono ?_; rintro e w13 ⟨rfl, hw13⟩
    have HB13 : Hid (Below w12.heap.size w12 w13) := by obtain ⟨dn, rfl⟩ := hw13; exact below_drewN (Below.refl _ _) dn
    clear hw13
    go_wp2_with fail
    refine (CE6.out w13 HB13.out).mono ?_; rintro e w14 ⟨rfl, hw14⟩
    have HBW14 : Hid (Below w.heap.size w w14) := by obtain ⟨dn, rfl⟩ := hw14; exact below_drewN (bvia HBW12.out HB13.out) dn
    clear hw14
    go_wp2
    go_ret
    exact RetB.mk (boolv (by first | rfl | simp)) HBW14.out
set_option maxRecDepth 100000 in
set_option maxHeartbeats 1600000 in
theorem cuts_b {w : World} {a1 : Option Addr} {n c1 : Nat} {s : List Int} (hS : Ls w a1 n c1 s) {r : Int} (hr : -9223372036854775808 ≤ r ∧ r ≤ 9223372036854775807) {a2 : Option Addr} {m c2 : Nat} {t : List Int} (hT : Ls w a2 m c2 t) (hcase : (n : Int) ≤ r) :
    Calls Try.prog 6 #[.slice a1 n c1, .int .i64 r, .slice a2 m c2] w (RetB w (.bool true)) := by
  have BG := Lib.hid (begun2_any w)
  have hl := hS.len
  have hb := hS.big
  have hm := hT.len
  have hmb := hT.big
  obtain ⟨q, hq⟩ : ∃ q, q = spN n r := ⟨_, rfl⟩
  have hqn : q ≤ n := by rw [hq]; unfold spN; split <;> (try split) <;> omega
  obtain ⟨d, hd⟩ : ∃ d, d = n - q := ⟨_, rfl⟩
  have hdn : d = n := by rw [hd, hq]; unfold spN; rw [if_neg (by omega)]; omega
  have HDN := Lib.hid hdn
  have u5 : ((d : Int) != n) = false := by rw [hdn]; simp
  clear hdn
  have u1 : decide (r < (n : Int)) = false := by simpa using hcase
  have u2 : decide (r < 0) = false := by simp; omega
  have hag := ag_pre s q (by omega)
  have hco := ag_comm s t
  have CS := Lib.hid (fun w1 (hB : Below w.heap.size w w1) => split_any (hS.below hB (Nat.le_refl _)) r hr)
  rw [← hq] at CS
  have CA1 := Lib.hid (fun w1 (hB : Below w.heap.size w w1) ao nn cc (hL : Ls w1 ao nn cc (s.take q)) => agree_any hL (hS.below hB (Nat.le_refl _)))
  have CA2 := Lib.hid (fun w1 (hB : Below w.heap.size w w1) ao nn cc (hL : Ls w1 ao nn cc (s.take q)) => agree_any (hS.below hB (Nat.le_refl _)) hL)
  have CA3 := Lib.hid (fun w1 (hB : Below w.heap.size w w1) => agree_any (hS.below hB (Nat.le_refl _)) (hT.below hB (Nat.le_refl _)))
  have CA4 := Lib.hid (fun w1 (hB : Below w.heap.size w w1) => agree_any (hT.below hB (Nat.le_refl _)) (hS.below hB (Nat.le_refl _)))
  rw [hag.1, hag.2.1] at CA1
  rw [hag.2.2.1, hag.2.2.2] at CA2
  rw [← hco.1, ← hco.2] at CA4
  have HS := Lib.hid hS
  have HT := Lib.hid hT
  have HQ := Lib.hid hqn
  have HD := Lib.hid hd
  have HLS := Lib.hid hl
  have HLT := Lib.hid hm
  have HBB := Lib.hid hb
  clear hS hT hag hco hq hqn hd hl hm
  go_enter Try.func6, Try.ntmps6
  go_wp2_with fail
  refine BG.out.mono ?_; rintro e w1 ⟨rfl, hb1⟩
  have HB1 := Lib.hid hb1
  clear hb1
  go_wp2_with fail
  refine (CS.out w1 HB1.out).mono ?_; rintro e w2 ⟨fo, fn, fc, eo, en, ec, rfl, hL1, hL2, -, -, -, hb2⟩
  have HB2 : Hid (Below w.heap.size w w2) := bvia HB1.out hb2
  have e1 : fn = q := by have h := hL1.len; rw [← h]; simp; have := HQ.out; have := HLS.out; omega
  have e2 : en = d := by have h := hL2.len; rw [← h]; simp; have := HD.out; have := HLS.out; omega
  subst e1 e2
  have F1 := Lib.hid hL1
  have F2 := Lib.hid hL2
  clear hL1 hL2 hb2
  obtain ⟨i0, hi, hz0, hz1, hz2⟩ := info_parts (P := Try.prog) (e := 3) (z := .int .i64 0) (size := 1) (bytes := 8) (by kernel_rfl)
  have hsz1 : (0 + fn) * 8 ≤ 140737488355328 := by have := F1.out.big; omega
  go_wp2_with (at_builtin; refine wpList_append_big _ rfl _ _ 25 rfl w2.heap.size 3 i0 Try.underlying25 hi hz0 hz1 hz2 (.slice none 0 0) 0 [] rfl (World.ownsRow_nil _ _ _ _) rfl F1.out hsz1 (Nat.le_refl _) ?_)
  intro v3 w3 hown3 hgrow3
  have HB3 : Hid (Below w2.heap.size w2 w3) := (Below.refl _ _).grown hgrow3 (Nat.le_refl _) (by intro g hg; simp [Value.ownBlock] at hg)
  have F2' := Lib.hid (F2.out.below HB3.out (Nat.le_refl _))
  have hsz2 : (fn + en) * 8 ≤ 140737488355328 := by have := HD.out; have := HQ.out; omega
  have HO3 : Hid (w3.ownsRow w2.heap.size 3 1 v3 fn ((s.take fn).map (Value.int .i64))) := by show World.ownsRow _ _ _ _ _ _ _; simpa using hown3
  clear hown3 hgrow3 hsz1
  go_wp2_with (at_builtin; refine wpList_append_big _ rfl _ _ 25 rfl w2.heap.size 3 i0 Try.underlying25 hi hz0 hz1 hz2 v3 fn (s.take fn) rfl HO3.out rfl F2'.out hsz2 HB3.out.size ?_)
  intro v4 w4 hown4 hgrow4
  have HB4 : Hid (Below w2.heap.size w2 w4) := HB3.out.grown hgrow4 HB3.out.size (by intro g hg; exact (own_block HO3.out hg).1)
  obtain ⟨vo, vc, rfl⟩ := own_form hown4
  have HL4 : Hid (Ls w4 vo (fn + en) vc s) := by
    have h : w4.ownsRow w2.heap.size 3 1 (.slice vo (fn + en) vc) (fn + en) (s.map (Value.int .i64)) := by
      have h2 : s.take fn ++ s.drop fn = s := List.take_append_drop _ _
      rw [← h2]
      simpa using hown4
    exact ls_of_own h (by have := HD.out; have := HQ.out; omega) HS.out.rng
  have HBW4 : Hid (Below w.heap.size w w4) := HB2.out.trans (HB4.out.mono HB2.out.size)
  have CE1 := Lib.hid (eqints_any HL4.out (HS.out.below HBW4.out (Nat.le_refl _)))
  simp only [decide_true] at CE1
  clear hown4 hgrow4 hsz2 hi hz0 hz1 hz2
  go_wp2_with fail
  refine CE1.out.mono ?_; rintro e w5 ⟨rfl, hw5⟩
  have HB5 : Hid (Below w2.heap.size w2 w5) := by obtain ⟨dn, rfl⟩ := hw5; exact below_drewN HB4.out dn
  have HBW5 : Hid (Below w.heap.size w w5) := HB2.out.trans (HB5.out.mono HB2.out.size)
  have F5 := Lib.hid (F1.out.below HB5.out (Nat.le_refl _))
  have dl : (en : Int) ≤ n := by have := HD.out; omega
  clear hw5
  have hen : ¬ r < (en : Int) := by have := HDN.out; omega
  go_wp2_with fail
  refine (CA1.out w5 HBW5.out fo fn fc F5.out).mono ?_; rintro e w6 ⟨xo, xn, xc, rfl, hX, -, hb6⟩
  have HB6 : Hid (Below w5.heap.size w5 w6) := hb6
  have HBW6 : Hid (Below w.heap.size w w6) := bvia HBW5.out hb6
  have HX := Lib.hid hX
  clear hX hb6
  go_wp2_with fail
  refine (CA2.out w6 HBW6.out fo fn fc (F5.out.below HB6.out (Nat.le_refl _))).mono ?_; rintro e w7 ⟨yo, yn, yc, rfl, hY, -, hb7⟩
  have HBW7 : Hid (Below w.heap.size w w7) := bvia HBW6.out hb7
  have CE2 := Lib.hid (eqints_any (HX.out.below hb7 (Nat.le_refl _)) (HS.out.below HBW7.out (Nat.le_refl _)))
  simp only [decide_true] at CE2
  have HY := Lib.hid hY
  clear hY hb7
  go_wp2_with fail
  refine CE2.out.mono ?_; rintro e w8 ⟨rfl, hw8⟩
  have HB8 : Hid (Below w7.heap.size w7 w8) := by obtain ⟨dn, rfl⟩ := hw8; exact below_drewN (Below.refl _ _) dn
  have HBW8 : Hid (Below w.heap.size w w8) := bvia HBW7.out HB8.out
  have CE3 := Lib.hid (eqints_any (HY.out.below HB8.out (Nat.le_refl _)) (HS.out.below HBW8.out (Nat.le_refl _)))
  simp only [decide_true] at CE3
  clear hw8
  go_wp2_with fail
  refine CE3.out.mono ?_; rintro e w9 ⟨rfl, hw9⟩
  have HBW9 : Hid (Below w.heap.size w w9) := by obtain ⟨dn, rfl⟩ := hw9; exact below_drewN HBW8.out dn
  clear hw9
  obtain ⟨R, HR⟩ : ∃ R, Hid (agE s t = R) := ⟨_, rfl⟩
  rw [HR.out] at CA3 CA4
  go_wp2_with fail
  refine (CA3.out w9 HBW9.out).mono ?_; rintro e w10 ⟨po, pn, pc, rfl, hP, -, hb10⟩
  have HBW10 : Hid (Below w.heap.size w w10) := bvia HBW9.out hb10
  have HP := Lib.hid hP
  clear hP hb10
  go_wp2_with fail
  refine (CA4.out w10 HBW10.out).mono ?_; rintro e w11 ⟨zo, zn, zc, rfl, hZ, -, hb11⟩
  have HBW11 : Hid (Below w.heap.size w w11) := bvia HBW10.out hb11
  have HP11 := Lib.hid (HP.out.below hb11 (Nat.le_refl _))
  have CE4 := Lib.hid (eqints_any HP11.out hZ)
  simp only [decide_true] at CE4
  clear hZ hb11
  go_wp2_with fail
  refine CE4.out.mono ?_; rintro e w12 ⟨rfl, hw12⟩
  have HB12 : Hid (Below w11.heap.size w11 w12) := by obtain ⟨dn, rfl⟩ := hw12; exact below_drewN (Below.refl _ _) dn
  have HBW12 : Hid (Below w.heap.size w w12) := bvia HBW11.out HB12.out
  clear hw12
  by_cases hg : ¬ R = 0
  · obtain ⟨g1, g2⟩ := ag_no (s := s) (t := t) (by rw [HR.out]; exact hg)
    obtain rfl : R = 11 := by rw [← HR.out]; exact g1
    have hpn : pn = 0 := by have h := HP.out.len; rw [g2] at h; exact h.symm
    subst hpn
    clear g1 g2
    go_wp2
    go_ret
    exact RetB.mk (boolv (by first | rfl | simp)) HBW12.out
  · obtain rfl : R = 0 := by simpa using hg
    obtain ⟨g1, g2, g3⟩ := ag_yes HR.out
    have HP12 := Lib.hid (HP11.out.below HB12.out (Nat.le_refl _))
    have hpm : max (n : Int) m = pn := by have h := HP.out.len; rw [g1, HLS.out, HLT.out] at h; omega
    have hpc := HP.out.cap
    have hpb := HP.out.big
    have hn1 : n ≤ pn := by omega
    have hm1 : m ≤ pn := by omega
    have CE5 := Lib.hid (eqints_any (HP12.out.take hn1) (HS.out.below HBW12.out (Nat.le_refl _)))
    rw [show (agL s t).take n = s by rw [← HLS.out]; exact g2] at CE5
    have CE6 := Lib.hid (fun w13 (hb : Below w12.heap.size w12 w13) => eqints_any ((HP12.out.take hm1).below hb (Nat.le_refl _)) (HT.out.below (bvia HBW12.out hb) (Nat.le_refl _)))
    rw [show (agL s t).take m = t by rw [← HLT.out]; exact g3] at CE6
    simp only [decide_true] at CE5 CE6
    have v1 : (n : Int) ≤ pc := by omega
    have v2 : (m : Int) ≤ pc := by omega
    clear g1 g2 g3 hpc hn1 hm1
    go_wp2_with fail
    refine CE5.out.mono ?_; rintro e w13 ⟨rfl, hw13⟩
    have HB13 : Hid (Below w12.heap.size w12 w13) := by obtain ⟨dn, rfl⟩ := hw13; exact below_drewN (Below.refl _ _) dn
    clear hw13
    go_wp2_with fail
    refine (CE6.out w13 HB13.out).mono ?_; rintro e w14 ⟨rfl, hw14⟩
    have HBW14 : Hid (Below w.heap.size w w14) := by obtain ⟨dn, rfl⟩ := hw14; exact below_drewN (bvia HBW12.out HB13.out) dn
    clear hw14
    go_wp2
    go_ret
    exact RetB.mk (boolv (by first | rfl | simp)) HBW14.out
set_option maxRecDepth 100000 in
set_option maxHeartbeats 1600000 in
theorem cuts_c {w : World} {a1 : Option Addr} {n c1 : Nat} {s : List Int} (hS : Ls w a1 n c1 s) {r : Int} (hr : -9223372036854775808 ≤ r ∧ r ≤ 9223372036854775807) {a2 : Option Addr} {m c2 : Nat} {t : List Int} (hT : Ls w a2 m c2 t) (hcase : -1000000 < r ∧ r < 0) :
    Calls Try.prog 6 #[.slice a1 n c1, .int .i64 r, .slice a2 m c2] w (RetB w (.bool true)) := by
  have BG := Lib.hid (begun2_any w)
  have hl := hS.len
  have hb := hS.big
  have hm := hT.len
  have hmb := hT.big
  obtain ⟨q, hq⟩ : ∃ q, q = spN n r := ⟨_, rfl⟩
  have hqn : q ≤ n := by rw [hq]; unfold spN; split <;> (try split) <;> omega
  obtain ⟨d, hd⟩ : ∃ d, d = n - q := ⟨_, rfl⟩
  have hdm : max (0 : Int) (n + r) = d := by rw [hd, hq]; unfold spN; rw [if_pos (by omega)]; split <;> omega
  have hdw : IntKind.i64.wrap ((n : Int) + r) = n + r := IntWalk.i64_in _ (by omega)
  have u2 : decide (r < 0) = true := by simp; omega
  have u4 : ¬ (n : Int) ≤ r := by omega
  have hag := ag_pre s q (by omega)
  have hco := ag_comm s t
  have CS := Lib.hid (fun w1 (hB : Below w.heap.size w w1) => split_any (hS.below hB (Nat.le_refl _)) r hr)
  rw [← hq] at CS
  have CA1 := Lib.hid (fun w1 (hB : Below w.heap.size w w1) ao nn cc (hL : Ls w1 ao nn cc (s.take q)) => agree_any hL (hS.below hB (Nat.le_refl _)))
  have CA2 := Lib.hid (fun w1 (hB : Below w.heap.size w w1) ao nn cc (hL : Ls w1 ao nn cc (s.take q)) => agree_any (hS.below hB (Nat.le_refl _)) hL)
  have CA3 := Lib.hid (fun w1 (hB : Below w.heap.size w w1) => agree_any (hS.below hB (Nat.le_refl _)) (hT.below hB (Nat.le_refl _)))
  have CA4 := Lib.hid (fun w1 (hB : Below w.heap.size w w1) => agree_any (hT.below hB (Nat.le_refl _)) (hS.below hB (Nat.le_refl _)))
  rw [hag.1, hag.2.1] at CA1
  rw [hag.2.2.1, hag.2.2.2] at CA2
  rw [← hco.1, ← hco.2] at CA4
  have HS := Lib.hid hS
  have HT := Lib.hid hT
  have HQ := Lib.hid hqn
  have HD := Lib.hid hd
  have HLS := Lib.hid hl
  have HLT := Lib.hid hm
  have HBB := Lib.hid hb
  clear hS hT hag hco hq hqn hd hl hm
  go_enter Try.func6, Try.ntmps6
  go_wp2_with fail
  refine BG.out.mono ?_; rintro e w1 ⟨rfl, hb1⟩
  have HB1 := Lib.hid hb1
  clear hb1
  go_wp2_with fail
  refine (CS.out w1 HB1.out).mono ?_; rintro e w2 ⟨fo, fn, fc, eo, en, ec, rfl, hL1, hL2, -, -, -, hb2⟩
  have HB2 : Hid (Below w.heap.size w w2) := bvia HB1.out hb2
  have e1 : fn = q := by have h := hL1.len; rw [← h]; simp; have := HQ.out; have := HLS.out; omega
  have e2 : en = d := by have h := hL2.len; rw [← h]; simp; have := HD.out; have := HLS.out; omega
  subst e1 e2
  have F1 := Lib.hid hL1
  have F2 := Lib.hid hL2
  clear hL1 hL2 hb2
  obtain ⟨i0, hi, hz0, hz1, hz2⟩ := info_parts (P := Try.prog) (e := 3) (z := .int .i64 0) (size := 1) (bytes := 8) (by kernel_rfl)
  have hsz1 : (0 + fn) * 8 ≤ 140737488355328 := by have := F1.out.big; omega
  go_wp2_with (at_builtin; refine wpList_append_big _ rfl _ _ 25 rfl w2.heap.size 3 i0 Try.underlying25 hi hz0 hz1 hz2 (.slice none 0 0) 0 [] rfl (World.ownsRow_nil _ _ _ _) rfl F1.out hsz1 (Nat.le_refl _) ?_)
  intro v3 w3 hown3 hgrow3
  have HB3 : Hid (Below w2.heap.size w2 w3) := (Below.refl _ _).grown hgrow3 (Nat.le_refl _) (by intro g hg; simp [Value.ownBlock] at hg)
  have F2' := Lib.hid (F2.out.below HB3.out (Nat.le_refl _))
  have hsz2 : (fn + en) * 8 ≤ 140737488355328 := by have := HD.out; have := HQ.out; omega
  have HO3 : Hid (w3.ownsRow w2.heap.size 3 1 v3 fn ((s.take fn).map (Value.int .i64))) := by show World.ownsRow _ _ _ _ _ _ _; simpa using hown3
  clear hown3 hgrow3 hsz1
  go_wp2_with (at_builtin; refine wpList_append_big _ rfl _ _ 25 rfl w2.heap.size 3 i0 Try.underlying25 hi hz0 hz1 hz2 v3 fn (s.take fn) rfl HO3.out rfl F2'.out hsz2 HB3.out.size ?_)
  intro v4 w4 hown4 hgrow4
  have HB4 : Hid (Below w2.heap.size w2 w4) := HB3.out.grown hgrow4 HB3.out.size (by intro g hg; exact (own_block HO3.out hg).1)
  obtain ⟨vo, vc, rfl⟩ := own_form hown4
  have HL4 : Hid (Ls w4 vo (fn + en) vc s) := by
    have h : w4.ownsRow w2.heap.size 3 1 (.slice vo (fn + en) vc) (fn + en) (s.map (Value.int .i64)) := by
      have h2 : s.take fn ++ s.drop fn = s := List.take_append_drop _ _
      rw [← h2]
      simpa using hown4
    exact ls_of_own h (by have := HD.out; have := HQ.out; omega) HS.out.rng
  have HBW4 : Hid (Below w.heap.size w w4) := HB2.out.trans (HB4.out.mono HB2.out.size)
  have CE1 := Lib.hid (eqints_any HL4.out (HS.out.below HBW4.out (Nat.le_refl _)))
  simp only [decide_true] at CE1
  clear hown4 hgrow4 hsz2 hi hz0 hz1 hz2
  go_wp2_with fail
  refine CE1.out.mono ?_; rintro e w5 ⟨rfl, hw5⟩
  have HB5 : Hid (Below w2.heap.size w2 w5) := by obtain ⟨dn, rfl⟩ := hw5; exact below_drewN HB4.out dn
  have HBW5 : Hid (Below w.heap.size w w5) := HB2.out.trans (HB5.out.mono HB2.out.size)
  have F5 := Lib.hid (F1.out.below HB5.out (Nat.le_refl _))
  have dl : (en : Int) ≤ n := by have := HD.out; omega
  clear hw5
  go_wp2_with fail
  refine (CA1.out w5 HBW5.out fo fn fc F5.out).mono ?_; rintro e w6 ⟨xo, xn, xc, rfl, hX, -, hb6⟩
  have HB6 : Hid (Below w5.heap.size w5 w6) := hb6
  have HBW6 : Hid (Below w.heap.size w w6) := bvia HBW5.out hb6
  have HX := Lib.hid hX
  clear hX hb6
  go_wp2_with fail
  refine (CA2.out w6 HBW6.out fo fn fc (F5.out.below HB6.out (Nat.le_refl _))).mono ?_; rintro e w7 ⟨yo, yn, yc, rfl, hY, -, hb7⟩
  have HBW7 : Hid (Below w.heap.size w w7) := bvia HBW6.out hb7
  have CE2 := Lib.hid (eqints_any (HX.out.below hb7 (Nat.le_refl _)) (HS.out.below HBW7.out (Nat.le_refl _)))
  simp only [decide_true] at CE2
  have HY := Lib.hid hY
  clear hY hb7
  go_wp2_with fail
  refine CE2.out.mono ?_; rintro e w8 ⟨rfl, hw8⟩
  have HB8 : Hid (Below w7.heap.size w7 w8) := by obtain ⟨dn, rfl⟩ := hw8; exact below_drewN (Below.refl _ _) dn
  have HBW8 : Hid (Below w.heap.size w w8) := bvia HBW7.out HB8.out
  have CE3 := Lib.hid (eqints_any (HY.out.below HB8.out (Nat.le_refl _)) (HS.out.below HBW8.out (Nat.le_refl _)))
  simp only [decide_true] at CE3
  clear hw8
  go_wp2_with fail
  refine CE3.out.mono ?_; rintro e w9 ⟨rfl, hw9⟩
  have HBW9 : Hid (Below w.heap.size w w9) := by obtain ⟨dn, rfl⟩ := hw9; exact below_drewN HBW8.out dn
  clear hw9
  obtain ⟨R, HR⟩ : ∃ R, Hid (agE s t = R) := ⟨_, rfl⟩
  rw [HR.out] at CA3 CA4
  go_wp2_with fail
  refine (CA3.out w9 HBW9.out).mono ?_; rintro e w10 ⟨po, pn, pc, rfl, hP, -, hb10⟩
  have HBW10 : Hid (Below w.heap.size w w10) := bvia HBW9.out hb10
  have HP := Lib.hid hP
  clear hP hb10
  go_wp2_with fail
  refine (CA4.out w10 HBW10.out).mono ?_; rintro e w11 ⟨zo, zn, zc, rfl, hZ, -, hb11⟩
  have HBW11 : Hid (Below w.heap.size w w11) := bvia HBW10.out hb11
  have HP11 := Lib.hid (HP.out.below hb11 (Nat.le_refl _))
  have CE4 := Lib.hid (eqints_any HP11.out hZ)
  simp only [decide_true] at CE4
  clear hZ hb11
  go_wp2_with fail
  refine CE4.out.mono ?_; rintro e w12 ⟨rfl, hw12⟩
  have HB12 : Hid (Below w11.heap.size w11 w12) := by obtain ⟨dn, rfl⟩ := hw12; exact below_drewN (Below.refl _ _) dn
  have HBW12 : Hid (Below w.heap.size w w12) := bvia HBW11.out HB12.out
  clear hw12
  by_cases hg : ¬ R = 0
  · obtain ⟨g1, g2⟩ := ag_no (s := s) (t := t) (by rw [HR.out]; exact hg)
    obtain rfl : R = 11 := by rw [← HR.out]; exact g1
    have hpn : pn = 0 := by have h := HP.out.len; rw [g2] at h; exact h.symm
    subst hpn
    clear g1 g2
    go_wp2
    go_ret
    exact RetB.mk (boolv (by first | rfl | simp)) HBW12.out
  · obtain rfl : R = 0 := by simpa using hg
    obtain ⟨g1, g2, g3⟩ := ag_yes HR.out
    have HP12 := Lib.hid (HP11.out.below HB12.out (Nat.le_refl _))
    have hpm : max (n : Int) m = pn := by have h := HP.out.len; rw [g1, HLS.out, HLT.out] at h; omega
    have hpc := HP.out.cap
    have hpb := HP.out.big
    have hn1 : n ≤ pn := by omega
    have hm1 : m ≤ pn := by omega
    have CE5 := Lib.hid (eqints_any (HP12.out.take hn1) (HS.out.below HBW12.out (Nat.le_refl _)))
    rw [show (agL s t).take n = s by rw [← HLS.out]; exact g2] at CE5
    have CE6 := Lib.hid (fun w13 (hb : Below w12.heap.size w12 w13) => eqints_any ((HP12.out.take hm1).below hb (Nat.le_refl _)) (HT.out.below (bvia HBW12.out hb) (Nat.le_refl _)))
    rw [show (agL s t).take m = t by rw [← HLT.out]; exact g3] at CE6
    simp only [decide_true] at CE5 CE6
    have v1 : (n : Int) ≤ pc := by omega
    have v2 : (m : Int) ≤ pc := by omega
    clear g1 g2 g3 hpc hn1 hm1
    go_wp2_with fail
    refine CE5.out.mono ?_; rintro e w13 ⟨rfl, hw13⟩
    have HB13 : Hid (Below w12.heap.size w12 w13) := by obtain ⟨dn, rfl⟩ := hw13; exact below_drewN (Below.refl _ _) dn
    clear hw13
    go_wp2_with fail
    refine (CE6.out w13 HB13.out).mono ?_; rintro e w14 ⟨rfl, hw14⟩
    have HBW14 : Hid (Below w.heap.size w w14) := by obtain ⟨dn, rfl⟩ := hw14; exact below_drewN (bvia HBW12.out HB13.out) dn
    clear hw14
    go_wp2
    go_ret
    exact RetB.mk (boolv (by first | rfl | simp)) HBW14.out
set_option maxRecDepth 100000 in
set_option maxHeartbeats 1600000 in
theorem cuts_d {w : World} {a1 : Option Addr} {n c1 : Nat} {s : List Int} (hS : Ls w a1 n c1 s) {r : Int} (hr : -9223372036854775808 ≤ r ∧ r ≤ 9223372036854775807) {a2 : Option Addr} {m c2 : Nat} {t : List Int} (hT : Ls w a2 m c2 t) (hcase : r ≤ -1000000) :
    Calls Try.prog 6 #[.slice a1 n c1, .int .i64 r, .slice a2 m c2] w (RetB w (.bool true)) := by
  have BG := Lib.hid (begun2_any w)
  have hl := hS.len
  have hb := hS.big
  have hm := hT.len
  have hmb := hT.big
  obtain ⟨q, hq⟩ : ∃ q, q = spN n r := ⟨_, rfl⟩
  have hqn : q ≤ n := by rw [hq]; unfold spN; split <;> (try split) <;> omega
  obtain ⟨d, hd⟩ : ∃ d, d = n - q := ⟨_, rfl⟩
  have u2 : decide (r < 0) = true := by simp; omega
  have u4 : ¬ (n : Int) ≤ r := by omega
  have hag := ag_pre s q (by omega)
  have hco := ag_comm s t
  have CS := Lib.hid (fun w1 (hB : Below w.heap.size w w1) => split_any (hS.below hB (Nat.le_refl _)) r hr)
  rw [← hq] at CS
  have CA1 := Lib.hid (fun w1 (hB : Below w.heap.size w w1) ao nn cc (hL : Ls w1 ao nn cc (s.take q)) => agree_any hL (hS.below hB (Nat.le_refl _)))
  have CA2 := Lib.hid (fun w1 (hB : Below w.heap.size w w1) ao nn cc (hL : Ls w1 ao nn cc (s.take q)) => agree_any (hS.below hB (Nat.le_refl _)) hL)
  have CA3 := Lib.hid (fun w1 (hB : Below w.heap.size w w1) => agree_any (hS.below hB (Nat.le_refl _)) (hT.below hB (Nat.le_refl _)))
  have CA4 := Lib.hid (fun w1 (hB : Below w.heap.size w w1) => agree_any (hT.below hB (Nat.le_refl _)) (hS.below hB (Nat.le_refl _)))
  rw [hag.1, hag.2.1] at CA1
  rw [hag.2.2.1, hag.2.2.2] at CA2
  rw [← hco.1, ← hco.2] at CA4
  have HS := Lib.hid hS
  have HT := Lib.hid hT
  have HQ := Lib.hid hqn
  have HD := Lib.hid hd
  have HLS := Lib.hid hl
  have HLT := Lib.hid hm
  have HBB := Lib.hid hb
  clear hS hT hag hco hq hqn hd hl hm
  go_enter Try.func6, Try.ntmps6
  go_wp2_with fail
  refine BG.out.mono ?_; rintro e w1 ⟨rfl, hb1⟩
  have HB1 := Lib.hid hb1
  clear hb1
  go_wp2_with fail
  refine (CS.out w1 HB1.out).mono ?_; rintro e w2 ⟨fo, fn, fc, eo, en, ec, rfl, hL1, hL2, -, -, -, hb2⟩
  have HB2 : Hid (Below w.heap.size w w2) := bvia HB1.out hb2
  have e1 : fn = q := by have h := hL1.len; rw [← h]; simp; have := HQ.out; have := HLS.out; omega
  have e2 : en = d := by have h := hL2.len; rw [← h]; simp; have := HD.out; have := HLS.out; omega
  subst e1 e2
  have F1 := Lib.hid hL1
  have F2 := Lib.hid hL2
  clear hL1 hL2 hb2
  obtain ⟨i0, hi, hz0, hz1, hz2⟩ := info_parts (P := Try.prog) (e := 3) (z := .int .i64 0) (size := 1) (bytes := 8) (by kernel_rfl)
  have hsz1 : (0 + fn) * 8 ≤ 140737488355328 := by have := F1.out.big; omega
  go_wp2_with (at_builtin; refine wpList_append_big _ rfl _ _ 25 rfl w2.heap.size 3 i0 Try.underlying25 hi hz0 hz1 hz2 (.slice none 0 0) 0 [] rfl (World.ownsRow_nil _ _ _ _) rfl F1.out hsz1 (Nat.le_refl _) ?_)
  intro v3 w3 hown3 hgrow3
  have HB3 : Hid (Below w2.heap.size w2 w3) := (Below.refl _ _).grown hgrow3 (Nat.le_refl _) (by intro g hg; simp [Value.ownBlock] at hg)
  have F2' := Lib.hid (F2.out.below HB3.out (Nat.le_refl _))
  have hsz2 : (fn + en) * 8 ≤ 140737488355328 := by have := HD.out; have := HQ.out; omega
  have HO3 : Hid (w3.ownsRow w2.heap.size 3 1 v3 fn ((s.take fn).map (Value.int .i64))) := by show World.ownsRow _ _ _ _ _ _ _; simpa using hown3
  clear hown3 hgrow3 hsz1
  go_wp2_with (at_builtin; refine wpList_append_big _ rfl _ _ 25 rfl w2.heap.size 3 i0 Try.underlying25 hi hz0 hz1 hz2 v3 fn (s.take fn) rfl HO3.out rfl F2'.out hsz2 HB3.out.size ?_)
  intro v4 w4 hown4 hgrow4
  have HB4 : Hid (Below w2.heap.size w2 w4) := HB3.out.grown hgrow4 HB3.out.size (by intro g hg; exact (own_block HO3.out hg).1)
  obtain ⟨vo, vc, rfl⟩ := own_form hown4
  have HL4 : Hid (Ls w4 vo (fn + en) vc s) := by
    have h : w4.ownsRow w2.heap.size 3 1 (.slice vo (fn + en) vc) (fn + en) (s.map (Value.int .i64)) := by
      have h2 : s.take fn ++ s.drop fn = s := List.take_append_drop _ _
      rw [← h2]
      simpa using hown4
    exact ls_of_own h (by have := HD.out; have := HQ.out; omega) HS.out.rng
  have HBW4 : Hid (Below w.heap.size w w4) := HB2.out.trans (HB4.out.mono HB2.out.size)
  have CE1 := Lib.hid (eqints_any HL4.out (HS.out.below HBW4.out (Nat.le_refl _)))
  simp only [decide_true] at CE1
  clear hown4 hgrow4 hsz2 hi hz0 hz1 hz2
  go_wp2_with fail
  refine CE1.out.mono ?_; rintro e w5 ⟨rfl, hw5⟩
  have HB5 : Hid (Below w2.heap.size w2 w5) := by obtain ⟨dn, rfl⟩ := hw5; exact below_drewN HB4.out dn
  have HBW5 : Hid (Below w.heap.size w w5) := HB2.out.trans (HB5.out.mono HB2.out.size)
  have F5 := Lib.hid (F1.out.below HB5.out (Nat.le_refl _))
  have dl : (en : Int) ≤ n := by have := HD.out; omega
  clear hw5
  go_wp2_with fail
  refine (CA1.out w5 HBW5.out fo fn fc F5.out).mono ?_; rintro e w6 ⟨xo, xn, xc, rfl, hX, -, hb6⟩
  have HB6 : Hid (Below w5.heap.size w5 w6) := hb6
  have HBW6 : Hid (Below w.heap.size w w6) := bvia HBW5.out hb6
  have HX := Lib.hid hX
  clear hX hb6
  go_wp2_with fail
  refine (CA2.out w6 HBW6.out fo fn fc (F5.out.below HB6.out (Nat.le_refl _))).mono ?_; rintro e w7 ⟨yo, yn, yc, rfl, hY, -, hb7⟩
  have HBW7 : Hid (Below w.heap.size w w7) := bvia HBW6.out hb7
  have CE2 := Lib.hid (eqints_any (HX.out.below hb7 (Nat.le_refl _)) (HS.out.below HBW7.out (Nat.le_refl _)))
  simp only [decide_true] at CE2
  have HY := Lib.hid hY
  clear hY hb7
  go_wp2_with fail
  refine CE2.out.mono ?_; rintro e w8 ⟨rfl, hw8⟩
  have HB8 : Hid (Below w7.heap.size w7 w8) := by obtain ⟨dn, rfl⟩ := hw8; exact below_drewN (Below.refl _ _) dn
  have HBW8 : Hid (Below w.heap.size w w8) := bvia HBW7.out HB8.out
  have CE3 := Lib.hid (eqints_any (HY.out.below HB8.out (Nat.le_refl _)) (HS.out.below HBW8.out (Nat.le_refl _)))
  simp only [decide_true] at CE3
  clear hw8
  go_wp2_with fail
  refine CE3.out.mono ?_; rintro e w9 ⟨rfl, hw9⟩
  have HBW9 : Hid (Below w.heap.size w w9) := by obtain ⟨dn, rfl⟩ := hw9; exact below_drewN HBW8.out dn
  clear hw9
  obtain ⟨R, HR⟩ : ∃ R, Hid (agE s t = R) := ⟨_, rfl⟩
  rw [HR.out] at CA3 CA4
  go_wp2_with fail
  refine (CA3.out w9 HBW9.out).mono ?_; rintro e w10 ⟨po, pn, pc, rfl, hP, -, hb10⟩
  have HBW10 : Hid (Below w.heap.size w w10) := bvia HBW9.out hb10
  have HP := Lib.hid hP
  clear hP hb10
  go_wp2_with fail
  refine (CA4.out w10 HBW10.out).mono ?_; rintro e w11 ⟨zo, zn, zc, rfl, hZ, -, hb11⟩
  have HBW11 : Hid (Below w.heap.size w w11) := bvia HBW10.out hb11
  have HP11 := Lib.hid (HP.out.below hb11 (Nat.le_refl _))
  have CE4 := Lib.hid (eqints_any HP11.out hZ)
  simp only [decide_true] at CE4
  clear hZ hb11
  go_wp2_with fail
  refine CE4.out.mono ?_; rintro e w12 ⟨rfl, hw12⟩
  have HB12 : Hid (Below w11.heap.size w11 w12) := by obtain ⟨dn, rfl⟩ := hw12; exact below_drewN (Below.refl _ _) dn
  have HBW12 : Hid (Below w.heap.size w w12) := bvia HBW11.out HB12.out
  clear hw12
  by_cases hg : ¬ R = 0
  · obtain ⟨g1, g2⟩ := ag_no (s := s) (t := t) (by rw [HR.out]; exact hg)
    obtain rfl : R = 11 := by rw [← HR.out]; exact g1
    have hpn : pn = 0 := by have h := HP.out.len; rw [g2] at h; exact h.symm
    subst hpn
    clear g1 g2
    go_wp2
    go_ret
    exact RetB.mk (boolv (by first | rfl | simp)) HBW12.out
  · obtain rfl : R = 0 := by simpa using hg
    obtain ⟨g1, g2, g3⟩ := ag_yes HR.out
    have HP12 := Lib.hid (HP11.out.below HB12.out (Nat.le_refl _))
    have hpm : max (n : Int) m = pn := by have h := HP.out.len; rw [g1, HLS.out, HLT.out] at h; omega
    have hpc := HP.out.cap
    have hpb := HP.out.big
    have hn1 : n ≤ pn := by omega
    have hm1 : m ≤ pn := by omega
    have CE5 := Lib.hid (eqints_any (HP12.out.take hn1) (HS.out.below HBW12.out (Nat.le_refl _)))
    rw [show (agL s t).take n = s by rw [← HLS.out]; exact g2] at CE5
    have CE6 := Lib.hid (fun w13 (hb : Below w12.heap.size w12 w13) => eqints_any ((HP12.out.take hm1).below hb (Nat.le_refl _)) (HT.out.below (bvia HBW12.out hb) (Nat.le_refl _)))
    rw [show (agL s t).take m = t by rw [← HLT.out]; exact g3] at CE6
    simp only [decide_true] at CE5 CE6
    have v1 : (n : Int) ≤ pc := by omega
    have v2 : (m : Int) ≤ pc := by omega
    clear g1 g2 g3 hpc hn1 hm1
    go_wp2_with fail
    refine CE5.out.mono ?_; rintro e w13 ⟨rfl, hw13⟩
    have HB13 : Hid (Below w12.heap.size w12 w13) := by obtain ⟨dn, rfl⟩ := hw13; exact below_drewN (Below.refl _ _) dn
    clear hw13
    go_wp2_with fail
    refine (CE6.out w13 HB13.out).mono ?_; rintro e w14 ⟨rfl, hw14⟩
    have HBW14 : Hid (Below w.heap.size w w14) := by obtain ⟨dn, rfl⟩ := hw14; exact below_drewN (bvia HBW12.out HB13.out) dn
    clear hw14
    go_wp2
    go_ret
    exact RetB.mk (boolv (by first | rfl | simp)) HBW14.out
theorem walkShapeCuts {w : World} {a1 : Option Addr} {n c1 : Nat} {s : List Int} (hS : Ls w a1 n c1 s) {r : Int} (hr : -9223372036854775808 ≤ r ∧ r ≤ 9223372036854775807) {a2 : Option Addr} {m c2 : Nat} {t : List Int} (hT : Ls w a2 m c2 t) :
    Calls Try.prog 6 #[.slice a1 n c1, .int .i64 r, .slice a2 m c2] w (RetB w (.bool true)) := by
  by_cases h0 : 0 ≤ r
  · by_cases h1 : r < n
    · exact cuts_a hS hr hT ⟨h0, h1⟩
    · exact cuts_b hS hr hT (by omega)
  · by_cases h1 : -1000000 < r
    · exact cuts_c hS hr hT ⟨h1, by omega⟩
    · exact cuts_d hS hr hT (by omega)
end Go.Proofs.Ytdmlldghelpijaa

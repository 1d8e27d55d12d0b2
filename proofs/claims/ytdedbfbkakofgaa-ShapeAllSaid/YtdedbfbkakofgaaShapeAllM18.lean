/- Contract of abacuslaw2.plays: one call of layer 2, what is handed in lying in the hands. ShapeAll: how much a call is handed, how much so far, and the walk of the statement's function. -/
import Derived.Test.YtdedbfbkakofgaaShapeAllM15
import Derived.Test.YtdedbfbkakofgaaShapeAllM17
import Derived.Test.YtdedbfbkakofgaaShapeAllM13
import Derived.Deep.RegionHeld3
namespace Go.Proofs.Ytdedbfbkakofgaa
open Go.RowKit Go.Lib
set_option linter.unusedVariables false
set_option linter.unusedSimpArgs false
attribute [local go_sem] alloc_drewN setCell_drewN
section
variable {base : Nat} {w wx : World} {Q : Nat × Nat × Nat → Rw} {hb : Nat}
/-- The call was as the document says; the hands are held as before, and the row of tag (5, 0, 0). -/
def PlP (base : Nat) (w : World) (hb : Nat) (Q : Nat × Nat × Nat → Rw) (e : Ending) (w' : World) : Prop := e = .returned (.bool true) ∧ ∃ Q' : Nat × Nat × Nat → Rw, St base w 0 hb Q' none none w' ∧ Q' (5, 0, 0) = Q (5, 0, 0)
theorem St.two {o : Nat} {h1 h2 : Option Rw} {w' : World} (h : St base w o hb Q h1 h2 wx) {t1 t2 : Nat × Nat × Nat} (ht1 : t1.1 ≠ o) (ht2 : t2.1 ≠ o) (h12 : t1 ≠ t2) {ao bo : Option Addr} {n c m d : Nat} {xs ys : List Int} (hO1 : w'.ownsRow wx.heap.size 3 1 (.slice ao n c) n (xs.map (Value.int .i64)))
    (hO2 : w'.ownsRow wx.heap.size 3 1 (.slice bo m d) m (ys.map (Value.int .i64))) (hne : ∀ g, (Value.slice ao n c).ownBlock = some g → (Value.slice bo m d).ownBlock ≠ some g) (hb' : Below wx.heap.size wx w') :
    St base w o hb (updR (updR Q t1 (lsR ao n c xs)) t2 (lsR bo m d ys)) h1 h2 w' := by
  obtain ⟨M, Rx, h, b, q, r1, r2, hw⟩ := h
  have ha : Hold base w' (updR Rx t1 (lsR ao n c xs)) := h.new t1 (own_mono hO1 h.base) hb' (fun g hg => (own_block hO1 hg).1)
  have hn : ∀ s : Nat × Nat × Nat, s.1 = o → updR (updR Rx t1 (lsR ao n c xs)) t2 (lsR bo m d ys) s = Rx s := fun s hs => (updR_ne (fun e => ht2 (by rw [← e]; exact hs))).trans (updR_ne (fun e => ht1 (by rw [← e]; exact hs)))
  refine ⟨M, _, ha.add t2 (r := lsR bo m d ys) (own_mono hO2 h.base) (fun s hs g hg hs' => ?_), b.congr hn, fun s hs => ?_, fun r hr => (hn _ rfl).trans (r1 r hr), fun r hr => (hn _ rfl).trans (r2 r hr), hw.trans (hb'.mono h.base)⟩
  · have hg1 := (own_block hO2 hg).1
    by_cases e : s = t1
    · subst e
      rw [updR_eq] at hs'
      exact hne g hs' hg
    · rw [updR_ne e] at hs'
      have := ((h.own s).lt hs').2
      omega
  · by_cases e2 : s = t2
    · subst e2; rw [updR_eq, updR_eq]
    · rw [updR_ne e2, updR_ne e2]
      by_cases e1 : s = t1
      · subst e1; rw [updR_eq, updR_eq]
      · rw [updR_ne e1, updR_ne e1]; exact q s hs
set_option maxRecDepth 100000 in
set_option maxHeartbeats 3200000 in
theorem plays2_may {w0 : World} (H : St base w 0 hb Q none none wx) {o : Op2} (hI : o.Is w0) (h0 : w0.heap.size ≤ base) (hb0 : Below base w0 w) (hk : o.k = 1) :
    Calls Try.prog 14 #[.pointer (some ⟨hb, 0, none⟩), .agg o.cells] wx (PlP base w hb Q) := by
  obtain ⟨kk, sa, sn, sc, s, ta, tn, tc, t, nn, ma, mn, mc, m⟩ := o
  simp only [Op2.cells]
  simp only at hk
  subst hk
  obtain ⟨hS, hT, hM, hnn⟩ := hI
  simp only at hS hT hM hnn
  have SS : Hid (∀ wy, Below base w wy → Ls wy sa sn sc s) := fun wy hy => hS.below (hb0.trans hy) h0
  have TT : Hid (∀ wy, Below base w wy → Ls wy ta tn tc t) := fun wy hy => hT.below (hb0.trans hy) h0
  have MM : Hid (∀ wy, Below base w wy → Lss wy ma mn mc m) := fun wy hy => hM.below (hb0.trans hy) h0
  have S0 := Lib.hid hS
  have T0 := Lib.hid hT
  have M0 := Lib.hid hM
  have H0 := Lib.hid (And.intro h0 hb0)
  have NN := Lib.hid hnn
  obtain ⟨W3, HW3⟩ : ∃ z, Hid (wx.alloc (.cells #[.int .i64 1, .slice sa sn sc, .slice ta tn tc, .int .i64 nn, .slice ma mn mc] 37) = z) := ⟨_, rfl⟩
  obtain ⟨Q3, HQ3⟩ : ∃ z, Hid (updR Q (7, 0, 0) ⟨37, 5, some ⟨wx.heap.size, 0, none⟩, 1, 1, (#[.int .i64 1, .slice sa sn sc, .slice ta tn tc, .int .i64 nn, .slice ma mn mc] : Array Value).toList⟩ = z) := ⟨_, rfl⟩
  have SX := H.alloc (t := (7, 0, 0)) (by simp) (cs := #[.int .i64 1, .slice sa sn sc, .slice ta tn tc, .int .i64 nn, .slice ma mn mc]) (E := 37) (sz := 5) (n := 1) rfl (by decide)
  rw [HW3.out, HQ3.out] at SX
  have X7 : Hid (Q3 (7, 0, 0) = ⟨37, 5, some ⟨wx.heap.size, 0, none⟩, 1, 1, (#[.int .i64 1, .slice sa sn sc, .slice ta tn tc, .int .i64 nn, .slice ma mn mc] : Array Value).toList⟩) := by show _ = _; rw [← HQ3.out, updR_eq]
  have X5 : Hid (Q3 (5, 0, 0) = Q (5, 0, 0)) := by show _ = _; rw [← HQ3.out, updR_ne (by simp)]
  have PP : Hid (∀ (wy : World) (Qy : Nat × Nat × Nat → Rw) (h1 h2 : Option Rw), St base w 0 hb Qy h1 h2 wy → Qy (7, 0, 0) = ⟨37, 5, some ⟨wx.heap.size, 0, none⟩, 1, 1, (#[.int .i64 1, .slice sa sn sc, .slice ta tn tc, .int .i64 nn, .slice ma mn mc] : Array Value).toList⟩ → wy.cell? ⟨wx.heap.size, 1, none⟩ = some (.slice sa sn sc) ∧ wy.cell? ⟨wx.heap.size, 2, none⟩ = some (.slice ta tn tc) ∧ wy.cell? ⟨wx.heap.size, 3, none⟩ = some (.int .i64 nn) ∧ wy.cell? ⟨wx.heap.size, 4, none⟩ = some (.slice ma mn mc)) :=
    fun wy Qy h1 h2 h e => ⟨h.cell (by simp) e 1 _ rfl, h.cell (by simp) e 2 _ rfl, h.cell (by simp) e 3 _ rfl, h.cell (by simp) e 4 _ rfl⟩
  have k0 := SX.cell (by simp) X7.out 0 _ rfl
  obtain ⟨p1, p2, p3, p4⟩ := PP.out W3 Q3 none none SX X7.out
  clear H hS hT hM hnn h0 hb0 HQ3
  go_enter Try.func14, Try.ntmps14
  rw [← HW3.out] at k0
  have CI1 := Lib.hid (SX.drew.ints1 SS.out)
  obtain ⟨v, HV⟩ : ∃ v, Hid (mayE s = v) := ⟨_, rfl⟩
  have hvv : (v == v) = true := by simp
  go_upto_region 3 with fail
  rw [HW3.out]
  clear k0
  go_region_held3 (fun wx2 => wx2.cell? ⟨wx.heap.size, 1, none⟩ = some (.slice sa sn sc)) (go_keep)
    (first
    | (go_at_call 50; (with_reducible refine Calls.mono (CI1.out) ?_); rintro e w5 ⟨g1, d1, rfl, hd1, hS5⟩; clear p1 p2 p3 p4; obtain ⟨p1, p2, p3, p4⟩ := PP.out _ _ _ _ hS5 X7.out; have CM := Lib.hid (may_any (hS5.ls1 S0.out hd1)); rw [HV.out] at CM)
    | (go_at_call 47; (with_reducible refine Calls.mono (CM.out) ?_); rintro e w6 ⟨rfl, rfl⟩))
  have SX5 := hS5
  have CK := Lib.hid (hS5.drew.kept1 SS.out)
  clear hS5 SX CI1 CM
  go_upto_region 4 with fail
  go_region_held3 (fun wx2 => wx2.cell? ⟨wx.heap.size, 1, none⟩ = some (.slice sa sn sc)) (go_keep)
    (first
    | (go_at_call 51; (with_reducible refine Calls.mono (CK.out) ?_); rintro e w8 ⟨rfl, hS8⟩; clear p1 p2 p3 p4; obtain ⟨p1, p2, p3, p4⟩ := PP.out _ _ _ _ hS8 X7.out; have CR := Lib.hid (rmay_any (SS.out w8 hS8.below)); rw [HV.out] at CR)
    | (go_at_call 52; (with_reducible refine Calls.mono (CR.out) ?_); rintro e w9 ⟨rfl, rfl⟩))
  go_wp2
  go_ret
  exact ⟨rfl, Q3, hS8, X5.out⟩
set_option maxRecDepth 100000 in
set_option maxHeartbeats 3200000 in
theorem plays2_size {w0 : World} (H : St base w 0 hb Q none none wx) {o : Op2} (hI : o.Is w0) (h0 : w0.heap.size ≤ base) (hb0 : Below base w0 w) (hk : o.k = 2) :
    Calls Try.prog 14 #[.pointer (some ⟨hb, 0, none⟩), .agg o.cells] wx (PlP base w hb Q) := by
  obtain ⟨kk, sa, sn, sc, s, ta, tn, tc, t, nn, ma, mn, mc, m⟩ := o
  simp only [Op2.cells]
  simp only at hk
  subst hk
  obtain ⟨hS, hT, hM, hnn⟩ := hI
  simp only at hS hT hM hnn
  have SS : Hid (∀ wy, Below base w wy → Ls wy sa sn sc s) := fun wy hy => hS.below (hb0.trans hy) h0
  have TT : Hid (∀ wy, Below base w wy → Ls wy ta tn tc t) := fun wy hy => hT.below (hb0.trans hy) h0
  have MM : Hid (∀ wy, Below base w wy → Lss wy ma mn mc m) := fun wy hy => hM.below (hb0.trans hy) h0
  have S0 := Lib.hid hS
  have T0 := Lib.hid hT
  have M0 := Lib.hid hM
  have H0 := Lib.hid (And.intro h0 hb0)
  have NN := Lib.hid hnn
  obtain ⟨W3, HW3⟩ : ∃ z, Hid (wx.alloc (.cells #[.int .i64 2, .slice sa sn sc, .slice ta tn tc, .int .i64 nn, .slice ma mn mc] 37) = z) := ⟨_, rfl⟩
  obtain ⟨Q3, HQ3⟩ : ∃ z, Hid (updR Q (7, 0, 0) ⟨37, 5, some ⟨wx.heap.size, 0, none⟩, 1, 1, (#[.int .i64 2, .slice sa sn sc, .slice ta tn tc, .int .i64 nn, .slice ma mn mc] : Array Value).toList⟩ = z) := ⟨_, rfl⟩
  have SX := H.alloc (t := (7, 0, 0)) (by simp) (cs := #[.int .i64 2, .slice sa sn sc, .slice ta tn tc, .int .i64 nn, .slice ma mn mc]) (E := 37) (sz := 5) (n := 1) rfl (by decide)
  rw [HW3.out, HQ3.out] at SX
  have X7 : Hid (Q3 (7, 0, 0) = ⟨37, 5, some ⟨wx.heap.size, 0, none⟩, 1, 1, (#[.int .i64 2, .slice sa sn sc, .slice ta tn tc, .int .i64 nn, .slice ma mn mc] : Array Value).toList⟩) := by show _ = _; rw [← HQ3.out, updR_eq]
  have X5 : Hid (Q3 (5, 0, 0) = Q (5, 0, 0)) := by show _ = _; rw [← HQ3.out, updR_ne (by simp)]
  have PP : Hid (∀ (wy : World) (Qy : Nat × Nat × Nat → Rw) (h1 h2 : Option Rw), St base w 0 hb Qy h1 h2 wy → Qy (7, 0, 0) = ⟨37, 5, some ⟨wx.heap.size, 0, none⟩, 1, 1, (#[.int .i64 2, .slice sa sn sc, .slice ta tn tc, .int .i64 nn, .slice ma mn mc] : Array Value).toList⟩ → wy.cell? ⟨wx.heap.size, 1, none⟩ = some (.slice sa sn sc) ∧ wy.cell? ⟨wx.heap.size, 2, none⟩ = some (.slice ta tn tc) ∧ wy.cell? ⟨wx.heap.size, 3, none⟩ = some (.int .i64 nn) ∧ wy.cell? ⟨wx.heap.size, 4, none⟩ = some (.slice ma mn mc)) :=
    fun wy Qy h1 h2 h e => ⟨h.cell (by simp) e 1 _ rfl, h.cell (by simp) e 2 _ rfl, h.cell (by simp) e 3 _ rfl, h.cell (by simp) e 4 _ rfl⟩
  have k0 := SX.cell (by simp) X7.out 0 _ rfl
  obtain ⟨p1, p2, p3, p4⟩ := PP.out W3 Q3 none none SX X7.out
  clear H hS hT hM hnn h0 hb0 HQ3
  go_enter Try.func14, Try.ntmps14
  rw [← HW3.out] at k0
  have CI1 := Lib.hid (SX.drew.ints1 SS.out)
  obtain ⟨v, HV⟩ : ∃ v, Hid (mayE s = v) := ⟨_, rfl⟩
  obtain ⟨u, HU⟩ : ∃ v, Hid (szE s = v) := ⟨_, rfl⟩
  have hvv : (v == v) = true := by simp
  have huu : (u == u) = true := by simp
  go_upto_region 6 with fail
  rw [HW3.out]
  clear k0
  go_region_held3 (fun wx2 => wx2.cell? ⟨wx.heap.size, 1, none⟩ = some (.slice sa sn sc)) (go_keep)
    (first
    | (go_at_call 50; (with_reducible refine Calls.mono (CI1.out) ?_); rintro e w5 ⟨g1, d1, rfl, hd1, hS5⟩; clear p1 p2 p3 p4; obtain ⟨p1, p2, p3, p4⟩ := PP.out _ _ _ _ hS5 X7.out; have CM := Lib.hid (size_any (hS5.ls1 S0.out hd1)); rw [HV.out, HU.out] at CM)
    | (go_at_call 41; (with_reducible refine Calls.mono (CM.out) ?_); rintro e w6 ⟨rfl, rfl⟩))
  have CK := Lib.hid (hS5.drew.kept1 SS.out)
  have CR := Lib.hid (rsz_any (SS.out _ hS5.below))
  rw [HV.out, HU.out] at CR
  clear SX CI1 CM
  go_wp2_with fail
  refine CR.out.mono ?_; rintro e w7 ⟨rfl, hw7⟩
  have hw7' := hw7.symm
  subst hw7'
  go_upto_region 8 with fail
  go_region_held3 (fun wx2 => wx2.cell? ⟨wx.heap.size, 1, none⟩ = some (.slice sa sn sc)) (go_keep)
    (first
    | (go_at_call 51; (with_reducible refine Calls.mono (CK.out) ?_); rintro e w8 ⟨rfl, hS8⟩; clear p1 p2 p3 p4; obtain ⟨p1, p2, p3, p4⟩ := PP.out _ _ _ _ hS8 X7.out))
  go_wp2
  go_ret
  exact ⟨rfl, Q3, hS8, X5.out⟩
set_option maxRecDepth 100000 in
set_option maxHeartbeats 3200000 in
theorem plays2_at {w0 : World} (H : St base w 0 hb Q none none wx) {o : Op2} (hI : o.Is w0) (h0 : w0.heap.size ≤ base) (hb0 : Below base w0 w) (hk : o.k = 4) :
    Calls Try.prog 14 #[.pointer (some ⟨hb, 0, none⟩), .agg o.cells] wx (PlP base w hb Q) := by
  obtain ⟨kk, sa, sn, sc, s, ta, tn, tc, t, nn, ma, mn, mc, m⟩ := o
  simp only [Op2.cells]
  simp only at hk
  subst hk
  obtain ⟨hS, hT, hM, hnn⟩ := hI
  simp only at hS hT hM hnn
  have SS : Hid (∀ wy, Below base w wy → Ls wy sa sn sc s) := fun wy hy => hS.below (hb0.trans hy) h0
  have TT : Hid (∀ wy, Below base w wy → Ls wy ta tn tc t) := fun wy hy => hT.below (hb0.trans hy) h0
  have MM : Hid (∀ wy, Below base w wy → Lss wy ma mn mc m) := fun wy hy => hM.below (hb0.trans hy) h0
  have S0 := Lib.hid hS
  have T0 := Lib.hid hT
  have M0 := Lib.hid hM
  have H0 := Lib.hid (And.intro h0 hb0)
  have NN := Lib.hid hnn
  obtain ⟨W3, HW3⟩ : ∃ z, Hid (wx.alloc (.cells #[.int .i64 4, .slice sa sn sc, .slice ta tn tc, .int .i64 nn, .slice ma mn mc] 37) = z) := ⟨_, rfl⟩
  obtain ⟨Q3, HQ3⟩ : ∃ z, Hid (updR Q (7, 0, 0) ⟨37, 5, some ⟨wx.heap.size, 0, none⟩, 1, 1, (#[.int .i64 4, .slice sa sn sc, .slice ta tn tc, .int .i64 nn, .slice ma mn mc] : Array Value).toList⟩ = z) := ⟨_, rfl⟩
  have SX := H.alloc (t := (7, 0, 0)) (by simp) (cs := #[.int .i64 4, .slice sa sn sc, .slice ta tn tc, .int .i64 nn, .slice ma mn mc]) (E := 37) (sz := 5) (n := 1) rfl (by decide)
  rw [HW3.out, HQ3.out] at SX
  have X7 : Hid (Q3 (7, 0, 0) = ⟨37, 5, some ⟨wx.heap.size, 0, none⟩, 1, 1, (#[.int .i64 4, .slice sa sn sc, .slice ta tn tc, .int .i64 nn, .slice ma mn mc] : Array Value).toList⟩) := by show _ = _; rw [← HQ3.out, updR_eq]
  have X5 : Hid (Q3 (5, 0, 0) = Q (5, 0, 0)) := by show _ = _; rw [← HQ3.out, updR_ne (by simp)]
  have PP : Hid (∀ (wy : World) (Qy : Nat × Nat × Nat → Rw) (h1 h2 : Option Rw), St base w 0 hb Qy h1 h2 wy → Qy (7, 0, 0) = ⟨37, 5, some ⟨wx.heap.size, 0, none⟩, 1, 1, (#[.int .i64 4, .slice sa sn sc, .slice ta tn tc, .int .i64 nn, .slice ma mn mc] : Array Value).toList⟩ → wy.cell? ⟨wx.heap.size, 1, none⟩ = some (.slice sa sn sc) ∧ wy.cell? ⟨wx.heap.size, 2, none⟩ = some (.slice ta tn tc) ∧ wy.cell? ⟨wx.heap.size, 3, none⟩ = some (.int .i64 nn) ∧ wy.cell? ⟨wx.heap.size, 4, none⟩ = some (.slice ma mn mc)) :=
    fun wy Qy h1 h2 h e => ⟨h.cell (by simp) e 1 _ rfl, h.cell (by simp) e 2 _ rfl, h.cell (by simp) e 3 _ rfl, h.cell (by simp) e 4 _ rfl⟩
  have k0 := SX.cell (by simp) X7.out 0 _ rfl
  obtain ⟨p1, p2, p3, p4⟩ := PP.out W3 Q3 none none SX X7.out
  clear H hS hT hM hnn h0 hb0 HQ3
  go_enter Try.func14, Try.ntmps14
  rw [← HW3.out] at k0
  have CI1 := Lib.hid (SX.drew.ints1 SS.out)
  obtain ⟨v, HV⟩ : ∃ v, Hid (atE s nn = v) := ⟨_, rfl⟩
  have hvv : (v == v) = true := by simp
  go_upto_region 16 with fail
  rw [HW3.out]
  clear k0
  go_region_held3 (fun wx2 => wx2.cell? ⟨wx.heap.size, 1, none⟩ = some (.slice sa sn sc) ∧ wx2.cell? ⟨wx.heap.size, 3, none⟩ = some (.int .i64 nn)) (go_keep)
    (first
    | (go_at_call 50; (with_reducible refine Calls.mono (CI1.out) ?_); rintro e w5 ⟨g1, d1, rfl, hd1, hS5⟩; clear p1 p2 p3 p4; obtain ⟨p1, p2, p3, p4⟩ := PP.out _ _ _ _ hS5 X7.out; have CM := Lib.hid (at_any (hS5.ls1 S0.out hd1) nn); rw [HV.out] at CM)
    | (go_at_call 43; (with_reducible refine Calls.mono (CM.out) ?_); rintro e w6 ⟨lo, ln, lc, rfl, hL6, hO6, hB6⟩; have hS6 := hS5.made (t := (7, 1, 0)) (by simp) hO6 hB6; have X76 := (updR_ne (R := Q3) (r := lsR lo ln lc (atL s nn)) (show (7, 0, 0) ≠ (7, 1, 0) by simp)).trans X7.out; clear p1 p2 p3 p4; obtain ⟨p1, p2, p3, p4⟩ := PP.out _ _ _ _ hS6 X76))
  have RG := Lib.hid (And.intro hL6.big hL6.rng)
  have CR := Lib.hid (rat_any (SS.out _ hS6.below) nn)
  rw [HV.out] at CR
  clear SX CI1 CM hS5 hL6 hO6 hB6
  go_wp2_with fail
  refine CR.out.mono ?_; rintro e w7 ⟨mo, mn', mc', rfl, hL7, hO7, hB7⟩
  have hS7 := hS6.made (t := (7, 2, 0)) (by simp) hO7 hB7
  have X77 := (updR_ne (r := lsR mo mn' mc' (atL s nn)) (show (7, 0, 0) ≠ (7, 2, 0) by simp)).trans X76
  have RG2 := Lib.hid (And.intro hL7.big hL7.rng)
  have CK := Lib.hid (hS7.drew.kept1 SS.out)
  clear p1 p2 p3 p4
  obtain ⟨p1, p2, p3, p4⟩ := PP.out _ _ _ _ hS7 X77
  clear CR hL7 hO7 hB7 hS6
  go_upto_region 18 with fail
  go_region_held3 (fun wx2 => wx2.cell? ⟨wx.heap.size, 1, none⟩ = some (.slice sa sn sc)) (go_keep)
    (first
    | (go_at_call 51; (with_reducible refine Calls.mono (CK.out) ?_); rintro e w8 ⟨rfl, hS8⟩; clear p1 p2 p3 p4; obtain ⟨p1, p2, p3, p4⟩ := PP.out _ _ _ _ hS8 X77; have CE := Lib.hid (eqints_self (hS8.ls (t := (7, 1, 0)) (by simp) ((updR_ne (by simp)).trans updR_eq) RG.out.1 RG.out.2) (hS8.ls (t := (7, 2, 0)) (by simp) updR_eq RG2.out.1 RG2.out.2)))
    | (go_at_call 19; (with_reducible refine Calls.mono (CE.out) ?_); rintro e w9 ⟨rfl, m9, rfl⟩))
  have HF := Lib.hid (hS8.drewN m9)
  clear hS8 hS7 X76 X77 p1 p2 p3 p4
  go_wp2
  go_ret
  exact ⟨rfl, _, HF.out, (updR_ne (by simp)).trans ((updR_ne (by simp)).trans X5.out)⟩
set_option maxRecDepth 100000 in
set_option maxHeartbeats 3200000 in
theorem plays2_split {w0 : World} (H : St base w 0 hb Q none none wx) {o : Op2} (hI : o.Is w0) (h0 : w0.heap.size ≤ base) (hb0 : Below base w0 w) (hk : o.k = 5) :
    Calls Try.prog 14 #[.pointer (some ⟨hb, 0, none⟩), .agg o.cells] wx (PlP base w hb Q) := by
  obtain ⟨kk, sa, sn, sc, s, ta, tn, tc, t, nn, ma, mn, mc, m⟩ := o
  simp only [Op2.cells]
  simp only at hk
  subst hk
  obtain ⟨hS, hT, hM, hnn⟩ := hI
  simp only at hS hT hM hnn
  have SS : Hid (∀ wy, Below base w wy → Ls wy sa sn sc s) := fun wy hy => hS.below (hb0.trans hy) h0
  have TT : Hid (∀ wy, Below base w wy → Ls wy ta tn tc t) := fun wy hy => hT.below (hb0.trans hy) h0
  have MM : Hid (∀ wy, Below base w wy → Lss wy ma mn mc m) := fun wy hy => hM.below (hb0.trans hy) h0
  have S0 := Lib.hid hS
  have T0 := Lib.hid hT
  have M0 := Lib.hid hM
  have H0 := Lib.hid (And.intro h0 hb0)
  have NN := Lib.hid hnn
  obtain ⟨W3, HW3⟩ : ∃ z, Hid (wx.alloc (.cells #[.int .i64 5, .slice sa sn sc, .slice ta tn tc, .int .i64 nn, .slice ma mn mc] 37) = z) := ⟨_, rfl⟩
  obtain ⟨Q3, HQ3⟩ : ∃ z, Hid (updR Q (7, 0, 0) ⟨37, 5, some ⟨wx.heap.size, 0, none⟩, 1, 1, (#[.int .i64 5, .slice sa sn sc, .slice ta tn tc, .int .i64 nn, .slice ma mn mc] : Array Value).toList⟩ = z) := ⟨_, rfl⟩
  have SX := H.alloc (t := (7, 0, 0)) (by simp) (cs := #[.int .i64 5, .slice sa sn sc, .slice ta tn tc, .int .i64 nn, .slice ma mn mc]) (E := 37) (sz := 5) (n := 1) rfl (by decide)
  rw [HW3.out, HQ3.out] at SX
  have X7 : Hid (Q3 (7, 0, 0) = ⟨37, 5, some ⟨wx.heap.size, 0, none⟩, 1, 1, (#[.int .i64 5, .slice sa sn sc, .slice ta tn tc, .int .i64 nn, .slice ma mn mc] : Array Value).toList⟩) := by show _ = _; rw [← HQ3.out, updR_eq]
  have X5 : Hid (Q3 (5, 0, 0) = Q (5, 0, 0)) := by show _ = _; rw [← HQ3.out, updR_ne (by simp)]
  have PP : Hid (∀ (wy : World) (Qy : Nat × Nat × Nat → Rw) (h1 h2 : Option Rw), St base w 0 hb Qy h1 h2 wy → Qy (7, 0, 0) = ⟨37, 5, some ⟨wx.heap.size, 0, none⟩, 1, 1, (#[.int .i64 5, .slice sa sn sc, .slice ta tn tc, .int .i64 nn, .slice ma mn mc] : Array Value).toList⟩ → wy.cell? ⟨wx.heap.size, 1, none⟩ = some (.slice sa sn sc) ∧ wy.cell? ⟨wx.heap.size, 2, none⟩ = some (.slice ta tn tc) ∧ wy.cell? ⟨wx.heap.size, 3, none⟩ = some (.int .i64 nn) ∧ wy.cell? ⟨wx.heap.size, 4, none⟩ = some (.slice ma mn mc)) :=
    fun wy Qy h1 h2 h e => ⟨h.cell (by simp) e 1 _ rfl, h.cell (by simp) e 2 _ rfl, h.cell (by simp) e 3 _ rfl, h.cell (by simp) e 4 _ rfl⟩
  have k0 := SX.cell (by simp) X7.out 0 _ rfl
  obtain ⟨p1, p2, p3, p4⟩ := PP.out W3 Q3 none none SX X7.out
  clear H hS hT hM hnn h0 hb0 HQ3
  go_enter Try.func14, Try.ntmps14
  rw [← HW3.out] at k0
  have CI1 := Lib.hid (SX.drew.ints1 SS.out)
  go_upto_region 20 with fail
  rw [HW3.out]
  clear k0
  go_region_held3 (fun wx2 => wx2.cell? ⟨wx.heap.size, 1, none⟩ = some (.slice sa sn sc) ∧ wx2.cell? ⟨wx.heap.size, 3, none⟩ = some (.int .i64 nn)) (go_keep)
    (first
    | (go_at_call 50; (with_reducible refine Calls.mono (CI1.out) ?_); rintro e w5 ⟨g1, d1, rfl, hd1, hS5⟩; clear p1 p2 p3 p4; obtain ⟨p1, p2, p3, p4⟩ := PP.out _ _ _ _ hS5 X7.out; have CM := Lib.hid (split_any (hS5.ls1 S0.out hd1) nn NN.out))
    | (go_at_call 44; (with_reducible refine Calls.mono (CM.out) ?_); rintro e w6 ⟨a1, n1, c1, b1, m1, d1', rfl, hL61, hL62, hO61, hO62, hne6, hB6⟩; have hS6 := hS5.two (t1 := (7, 1, 0)) (t2 := (7, 2, 0)) (by simp) (by simp) (by simp) hO61 hO62 hne6 hB6; have X76 := (updR_ne (R := updR Q3 (7, 1, 0) (lsR a1 n1 c1 (s.take (spN sn nn)))) (r := lsR b1 m1 d1' (s.drop (spN sn nn))) (show (7, 0, 0) ≠ (7, 2, 0) by simp)).trans ((updR_ne (show (7, 0, 0) ≠ (7, 1, 0) by simp)).trans X7.out); clear p1 p2 p3 p4; obtain ⟨p1, p2, p3, p4⟩ := PP.out _ _ _ _ hS6 X76))
  have RG := Lib.hid (And.intro hL61.big hL61.rng)
  have RG2 := Lib.hid (And.intro hL62.big hL62.rng)
  have CR := Lib.hid (rsplit_any (SS.out _ hS6.below) nn NN.out)
  clear SX CI1 CM hS5 hL61 hL62 hO61 hO62 hB6 hne6
  go_wp2_with fail
  refine CR.out.mono ?_; rintro e w7 ⟨a2, n2, c2, b2, m2, d2', rfl, hL71, hL72, hO71, hO72, hne7, hB7⟩
  have hS7 := hS6.two (t1 := (7, 3, 0)) (t2 := (7, 4, 0)) (by simp) (by simp) (by simp) hO71 hO72 hne7 hB7
  have X77 := (updR_ne (R := updR (updR (updR Q3 (7, 1, 0) (lsR a1 n1 c1 (s.take (spN sn nn)))) (7, 2, 0) (lsR b1 m1 d1' (s.drop (spN sn nn)))) (7, 3, 0) (lsR a2 n2 c2 (s.take (spN sn nn)))) (r := lsR b2 m2 d2' (s.drop (spN sn nn))) (show (7, 0, 0) ≠ (7, 4, 0) by simp)).trans ((updR_ne (show (7, 0, 0) ≠ (7, 3, 0) by simp)).trans X76)
  have RG3 := Lib.hid (And.intro hL71.big hL71.rng)
  have RG4 := Lib.hid (And.intro hL72.big hL72.rng)
  have CK := Lib.hid (hS7.drew.kept1 SS.out)
  clear p1 p2 p3 p4
  obtain ⟨p1, p2, p3, p4⟩ := PP.out _ _ _ _ hS7 X77
  clear CR hL71 hL72 hO71 hO72 hB7 hne7 hS6
  go_upto_region 22 with fail
  go_region_held3 (fun wx2 => wx2.cell? ⟨wx.heap.size, 1, none⟩ = some (.slice sa sn sc)) (go_keep)
    (first
    | (go_at_call 51; (with_reducible refine Calls.mono (CK.out) ?_); rintro e w8 ⟨rfl, hS8⟩; clear p1 p2 p3 p4; obtain ⟨p1, p2, p3, p4⟩ := PP.out _ _ _ _ hS8 X77; have CE := Lib.hid (eqints_self (hS8.ls (t := (7, 1, 0)) (by simp) ((updR_ne (by simp)).trans ((updR_ne (by simp)).trans ((updR_ne (by simp)).trans updR_eq))) RG.out.1 RG.out.2) (hS8.ls (t := (7, 3, 0)) (by simp) ((updR_ne (by simp)).trans updR_eq) RG3.out.1 RG3.out.2)); have CF := Lib.hid (fun m => eqints_self ((hS8.drewN m).ls (t := (7, 2, 0)) (by simp) ((updR_ne (by simp)).trans ((updR_ne (by simp)).trans updR_eq)) RG2.out.1 RG2.out.2) ((hS8.drewN m).ls (t := (7, 4, 0)) (by simp) updR_eq RG4.out.1 RG4.out.2)))
    | (go_at_call 19; (with_reducible refine Calls.mono (CE.out) ?_); rintro e w9 ⟨rfl, m9, rfl⟩)
    | (go_at_call 19; (with_reducible refine Calls.mono (CF.out _) ?_); rintro e w10 ⟨rfl, m10, rfl⟩))
  have HF := Lib.hid (hS8.drewN (m9 + m10))
  clear hS8 hS7 X76 X77 p1 p2 p3 p4
  go_wp2
  go_ret
  exact ⟨rfl, _, HF.out, (updR_ne (by simp)).trans ((updR_ne (by simp)).trans ((updR_ne (by simp)).trans ((updR_ne (by simp)).trans X5.out)))⟩
set_option maxRecDepth 100000 in
set_option maxHeartbeats 3200000 in
theorem plays2_place {w0 : World} (H : St base w 0 hb Q none none wx) {o : Op2} (hI : o.Is w0) (h0 : w0.heap.size ≤ base) (hb0 : Below base w0 w) (hk : o.k = 3) :
    Calls Try.prog 14 #[.pointer (some ⟨hb, 0, none⟩), .agg o.cells] wx (PlP base w hb Q) := by
  obtain ⟨kk, sa, sn, sc, s, ta, tn, tc, t, nn, ma, mn, mc, m⟩ := o
  simp only [Op2.cells]
  simp only at hk
  subst hk
  obtain ⟨hS, hT, hM, hnn⟩ := hI
  simp only at hS hT hM hnn
  have SS : Hid (∀ wy, Below base w wy → Ls wy sa sn sc s) := fun wy hy => hS.below (hb0.trans hy) h0
  have TT : Hid (∀ wy, Below base w wy → Ls wy ta tn tc t) := fun wy hy => hT.below (hb0.trans hy) h0
  have MM : Hid (∀ wy, Below base w wy → Lss wy ma mn mc m) := fun wy hy => hM.below (hb0.trans hy) h0
  have S0 := Lib.hid hS
  have T0 := Lib.hid hT
  have M0 := Lib.hid hM
  have H0 := Lib.hid (And.intro h0 hb0)
  have NN := Lib.hid hnn
  obtain ⟨W3, HW3⟩ : ∃ z, Hid (wx.alloc (.cells #[.int .i64 3, .slice sa sn sc, .slice ta tn tc, .int .i64 nn, .slice ma mn mc] 37) = z) := ⟨_, rfl⟩
  obtain ⟨Q3, HQ3⟩ : ∃ z, Hid (updR Q (7, 0, 0) ⟨37, 5, some ⟨wx.heap.size, 0, none⟩, 1, 1, (#[.int .i64 3, .slice sa sn sc, .slice ta tn tc, .int .i64 nn, .slice ma mn mc] : Array Value).toList⟩ = z) := ⟨_, rfl⟩
  have SX := H.alloc (t := (7, 0, 0)) (by simp) (cs := #[.int .i64 3, .slice sa sn sc, .slice ta tn tc, .int .i64 nn, .slice ma mn mc]) (E := 37) (sz := 5) (n := 1) rfl (by decide)
  rw [HW3.out, HQ3.out] at SX
  have X7 : Hid (Q3 (7, 0, 0) = ⟨37, 5, some ⟨wx.heap.size, 0, none⟩, 1, 1, (#[.int .i64 3, .slice sa sn sc, .slice ta tn tc, .int .i64 nn, .slice ma mn mc] : Array Value).toList⟩) := by show _ = _; rw [← HQ3.out, updR_eq]
  have X5 : Hid (Q3 (5, 0, 0) = Q (5, 0, 0)) := by show _ = _; rw [← HQ3.out, updR_ne (by simp)]
  have PP : Hid (∀ (wy : World) (Qy : Nat × Nat × Nat → Rw) (h1 h2 : Option Rw), St base w 0 hb Qy h1 h2 wy → Qy (7, 0, 0) = ⟨37, 5, some ⟨wx.heap.size, 0, none⟩, 1, 1, (#[.int .i64 3, .slice sa sn sc, .slice ta tn tc, .int .i64 nn, .slice ma mn mc] : Array Value).toList⟩ → wy.cell? ⟨wx.heap.size, 1, none⟩ = some (.slice sa sn sc) ∧ wy.cell? ⟨wx.heap.size, 2, none⟩ = some (.slice ta tn tc) ∧ wy.cell? ⟨wx.heap.size, 3, none⟩ = some (.int .i64 nn) ∧ wy.cell? ⟨wx.heap.size, 4, none⟩ = some (.slice ma mn mc)) :=
    fun wy Qy h1 h2 h e => ⟨h.cell (by simp) e 1 _ rfl, h.cell (by simp) e 2 _ rfl, h.cell (by simp) e 3 _ rfl, h.cell (by simp) e 4 _ rfl⟩
  have k0 := SX.cell (by simp) X7.out 0 _ rfl
  obtain ⟨p1, p2, p3, p4⟩ := PP.out W3 Q3 none none SX X7.out
  clear H hS hT hM hnn h0 hb0 HQ3
  go_enter Try.func14, Try.ntmps14
  rw [← HW3.out] at k0
  have CI1 := Lib.hid (fun (wy : World) (h1 h2 : Option Rw) (h : St base w 0 hb Q3 h1 h2 wy) => h.ints1 SS.out)
  have CI2 := Lib.hid (fun (wy : World) (h1 h2 : Option Rw) (h : St base w 0 hb Q3 h1 h2 wy) => h.ints2 TT.out)
  obtain ⟨v, HV⟩ : ∃ v, Hid (plE s t = v) := ⟨_, rfl⟩
  have hvv : (v == v) = true := by simp
  obtain ⟨u, HU⟩ : ∃ v, Hid (plV s t = v) := ⟨_, rfl⟩
  have huu : (u == u) = true := by simp
  replace SX := SX.drew
  go_upto_region 10 with fail
  rw [HW3.out]
  clear k0
  go_region_held3 (fun wx2 => wx2.cell? ⟨wx.heap.size, 1, none⟩ = some (.slice sa sn sc) ∧ wx2.cell? ⟨wx.heap.size, 2, none⟩ = some (.slice ta tn tc)) (go_keep)
    (first
    | (go_at_call 50; (with_reducible refine Calls.mono (CI1.out _ _ _ SX) ?_); rintro e w1 ⟨g1, d1, rfl, hd1, hS5⟩; have SX := hS5; clear hS5; clear p1 p2 p3 p4; obtain ⟨p1, p2, p3, p4⟩ := PP.out _ _ _ _ SX X7.out; skip)
    | (go_at_call 50; (with_reducible refine Calls.mono (CI2.out _ _ _ SX) ?_); rintro e w2 ⟨g2, d2, rfl, hd2, hS5⟩; have SX := hS5; clear hS5; clear p1 p2 p3 p4; obtain ⟨p1, p2, p3, p4⟩ := PP.out _ _ _ _ SX X7.out; skip)
    | ((have CM := Lib.hid (place_any (SX.ls1 S0.out hd1) (SX.ls2 T0.out hd2)); rw [HV.out, HU.out] at CM); go_at_call 42; (with_reducible refine Calls.mono (CM.out) ?_); rintro e w6 ⟨rfl, rfl⟩))
  all_goals clear CI1 CI2 CM
  all_goals have CR := Lib.hid (rplace_any (SS.out _ SX.below) (TT.out _ SX.below))
  all_goals rw [HV.out, HU.out] at CR
  all_goals go_wp2_with fail
  all_goals (refine CR.out.mono ?_; rintro e w7 ⟨rfl, hB7⟩)
  all_goals have hS7 := SX.via hB7
  all_goals have CK := Lib.hid (hS7.drew.kept1 SS.out)
  all_goals clear p1 p2 p3 p4 SX CR hB7
  all_goals (obtain ⟨p1, p2, p3, p4⟩ := PP.out _ _ _ _ hS7 X7.out)
  all_goals go_upto_region 12 with fail
  all_goals
    go_region_held3 (fun wx2 => wx2.cell? ⟨wx.heap.size, 1, none⟩ = some (.slice sa sn sc)) (go_keep)
      (first
      | (go_at_call 51; (with_reducible refine Calls.mono (CK.out) ?_); rintro e w8 ⟨rfl, hS8⟩; clear p1 p2 p3 p4; obtain ⟨p1, p2, p3, p4⟩ := PP.out _ _ _ _ hS8 X7.out))
  all_goals clear hS7 CK
  all_goals have CK := Lib.hid (hS8.drew.kept2 TT.out)
  all_goals go_upto_region 13 with fail
  all_goals
    go_region_held3 (fun wx2 => wx2.cell? ⟨wx.heap.size, 2, none⟩ = some (.slice ta tn tc)) (go_keep)
      (first
      | (go_at_call 51; (with_reducible refine Calls.mono (CK.out) ?_); rintro e w9 ⟨rfl, hS9⟩; clear p1 p2 p3 p4; obtain ⟨p1, p2, p3, p4⟩ := PP.out _ _ _ _ hS9 X7.out))
  all_goals clear hS8 CK
  all_goals have HF := Lib.hid hS9
  all_goals clear hS9 p1 p2 p3 p4
  all_goals go_wp2
  all_goals go_ret
  all_goals exact ⟨rfl, _, HF.out, X5.out⟩
set_option maxRecDepth 100000 in
set_option maxHeartbeats 3200000 in
theorem plays2_agree {w0 : World} (H : St base w 0 hb Q none none wx) {o : Op2} (hI : o.Is w0) (h0 : w0.heap.size ≤ base) (hb0 : Below base w0 w) (hk : o.k = 6) :
    Calls Try.prog 14 #[.pointer (some ⟨hb, 0, none⟩), .agg o.cells] wx (PlP base w hb Q) := by
  obtain ⟨kk, sa, sn, sc, s, ta, tn, tc, t, nn, ma, mn, mc, m⟩ := o
  simp only [Op2.cells]
  simp only at hk
  subst hk
  obtain ⟨hS, hT, hM, hnn⟩ := hI
  simp only at hS hT hM hnn
  have SS : Hid (∀ wy, Below base w wy → Ls wy sa sn sc s) := fun wy hy => hS.below (hb0.trans hy) h0
  have TT : Hid (∀ wy, Below base w wy → Ls wy ta tn tc t) := fun wy hy => hT.below (hb0.trans hy) h0
  have MM : Hid (∀ wy, Below base w wy → Lss wy ma mn mc m) := fun wy hy => hM.below (hb0.trans hy) h0
  have S0 := Lib.hid hS
  have T0 := Lib.hid hT
  have M0 := Lib.hid hM
  have H0 := Lib.hid (And.intro h0 hb0)
  have NN := Lib.hid hnn
  obtain ⟨W3, HW3⟩ : ∃ z, Hid (wx.alloc (.cells #[.int .i64 6, .slice sa sn sc, .slice ta tn tc, .int .i64 nn, .slice ma mn mc] 37) = z) := ⟨_, rfl⟩
  obtain ⟨Q3, HQ3⟩ : ∃ z, Hid (updR Q (7, 0, 0) ⟨37, 5, some ⟨wx.heap.size, 0, none⟩, 1, 1, (#[.int .i64 6, .slice sa sn sc, .slice ta tn tc, .int .i64 nn, .slice ma mn mc] : Array Value).toList⟩ = z) := ⟨_, rfl⟩
  have SX := H.alloc (t := (7, 0, 0)) (by simp) (cs := #[.int .i64 6, .slice sa sn sc, .slice ta tn tc, .int .i64 nn, .slice ma mn mc]) (E := 37) (sz := 5) (n := 1) rfl (by decide)
  rw [HW3.out, HQ3.out] at SX
  have X7 : Hid (Q3 (7, 0, 0) = ⟨37, 5, some ⟨wx.heap.size, 0, none⟩, 1, 1, (#[.int .i64 6, .slice sa sn sc, .slice ta tn tc, .int .i64 nn, .slice ma mn mc] : Array Value).toList⟩) := by show _ = _; rw [← HQ3.out, updR_eq]
  have X5 : Hid (Q3 (5, 0, 0) = Q (5, 0, 0)) := by show _ = _; rw [← HQ3.out, updR_ne (by simp)]
  have PP : Hid (∀ (wy : World) (Qy : Nat × Nat × Nat → Rw) (h1 h2 : Option Rw), St base w 0 hb Qy h1 h2 wy → Qy (7, 0, 0) = ⟨37, 5, some ⟨wx.heap.size, 0, none⟩, 1, 1, (#[.int .i64 6, .slice sa sn sc, .slice ta tn tc, .int .i64 nn, .slice ma mn mc] : Array Value).toList⟩ → wy.cell? ⟨wx.heap.size, 1, none⟩ = some (.slice sa sn sc) ∧ wy.cell? ⟨wx.heap.size, 2, none⟩ = some (.slice ta tn tc) ∧ wy.cell? ⟨wx.heap.size, 3, none⟩ = some (.int .i64 nn) ∧ wy.cell? ⟨wx.heap.size, 4, none⟩ = some (.slice ma mn mc)) :=
    fun wy Qy h1 h2 h e => ⟨h.cell (by simp) e 1 _ rfl, h.cell (by simp) e 2 _ rfl, h.cell (by simp) e 3 _ rfl, h.cell (by simp) e 4 _ rfl⟩
  have k0 := SX.cell (by simp) X7.out 0 _ rfl
  obtain ⟨p1, p2, p3, p4⟩ := PP.out W3 Q3 none none SX X7.out
  clear H hS hT hM hnn h0 hb0 HQ3
  go_enter Try.func14, Try.ntmps14
  rw [← HW3.out] at k0
  have CI1 := Lib.hid (fun (wy : World) (h1 h2 : Option Rw) (h : St base w 0 hb Q3 h1 h2 wy) => h.ints1 SS.out)
  have CI2 := Lib.hid (fun (wy : World) (h1 h2 : Option Rw) (h : St base w 0 hb Q3 h1 h2 wy) => h.ints2 TT.out)
  obtain ⟨v, HV⟩ : ∃ v, Hid (agE s t = v) := ⟨_, rfl⟩
  have hvv : (v == v) = true := by simp
  replace SX := SX.drew
  go_upto_region 24 with fail
  rw [HW3.out]
  clear k0
  go_region_held3 (fun wx2 => wx2.cell? ⟨wx.heap.size, 1, none⟩ = some (.slice sa sn sc) ∧ wx2.cell? ⟨wx.heap.size, 2, none⟩ = some (.slice ta tn tc)) (go_keep)
    (first
    | (go_at_call 50; (with_reducible refine Calls.mono (CI1.out _ _ _ SX) ?_); rintro e w1 ⟨g1, d1, rfl, hd1, hS5⟩; have SX := hS5; clear hS5; clear p1 p2 p3 p4; obtain ⟨p1, p2, p3, p4⟩ := PP.out _ _ _ _ SX X7.out; skip)
    | (go_at_call 50; (with_reducible refine Calls.mono (CI2.out _ _ _ SX) ?_); rintro e w2 ⟨g2, d2, rfl, hd2, hS5⟩; have SX := hS5; clear hS5; clear p1 p2 p3 p4; obtain ⟨p1, p2, p3, p4⟩ := PP.out _ _ _ _ SX X7.out; skip)
    | ((have CM := Lib.hid (agree_any (SX.ls1 S0.out hd1) (SX.ls2 T0.out hd2)); rw [HV.out] at CM); go_at_call 45; (with_reducible refine Calls.mono (CM.out) ?_); rintro e w6 ⟨lo, ln, lc, rfl, hL6, hO6, hB6⟩; have hS6 := SX.made (t := (7, 1, 0)) (by simp) hO6 hB6; have X76 := (updR_ne (R := Q3) (r := lsR lo ln lc (agL s t)) (show (7, 0, 0) ≠ (7, 1, 0) by simp)).trans X7.out; clear p1 p2 p3 p4; obtain ⟨p1, p2, p3, p4⟩ := PP.out _ _ _ _ hS6 X76; have RG := Lib.hid (And.intro hL6.big hL6.rng); clear hL6 hO6 hB6))
  all_goals clear CI1 CI2 CM
  all_goals have CR := Lib.hid (ragree_any (SS.out _ hS6.below) (TT.out _ hS6.below))
  all_goals rw [HV.out] at CR
  all_goals clear SX
  all_goals go_wp2_with fail
  all_goals (refine CR.out.mono ?_; rintro e w7 ⟨mo, mn', mc', rfl, hL7, hO7, hB7⟩)
  all_goals have hS7 := hS6.made (t := (7, 2, 0)) (by simp) hO7 hB7
  all_goals have X77 := (updR_ne (r := lsR mo mn' mc' (agL s t)) (show (7, 0, 0) ≠ (7, 2, 0) by simp)).trans X76
  all_goals have RG2 := Lib.hid (And.intro hL7.big hL7.rng)
  all_goals have CK := Lib.hid (hS7.drew.kept1 SS.out)
  all_goals clear p1 p2 p3 p4 CR hL7 hO7 hB7 hS6
  all_goals (obtain ⟨p1, p2, p3, p4⟩ := PP.out _ _ _ _ hS7 X77)
  all_goals go_upto_region 26 with fail
  all_goals
    go_region_held3 (fun wx2 => wx2.cell? ⟨wx.heap.size, 1, none⟩ = some (.slice sa sn sc)) (go_keep)
      (first
      | (go_at_call 51; (with_reducible refine Calls.mono (CK.out) ?_); rintro e w8 ⟨rfl, hS8⟩; clear p1 p2 p3 p4; obtain ⟨p1, p2, p3, p4⟩ := PP.out _ _ _ _ hS8 X77))
  all_goals clear hS7 CK
  all_goals have CK := Lib.hid (hS8.drew.kept2 TT.out)
  all_goals go_upto_region 27 with fail
  all_goals
    go_region_held3 (fun wx2 => wx2.cell? ⟨wx.heap.size, 2, none⟩ = some (.slice ta tn tc)) (go_keep)
      (first
      | (go_at_call 51; (with_reducible refine Calls.mono (CK.out) ?_); rintro e w9 ⟨rfl, hS9⟩; clear p1 p2 p3 p4; obtain ⟨p1, p2, p3, p4⟩ := PP.out _ _ _ _ hS9 X77))
  all_goals clear hS8 CK
  all_goals have CE := Lib.hid (eqints_self (hS9.ls (t := (7, 1, 0)) (by simp) ((updR_ne (by simp)).trans updR_eq) RG.out.1 RG.out.2) (hS9.ls (t := (7, 2, 0)) (by simp) updR_eq RG2.out.1 RG2.out.2))
  all_goals clear p1 p2 p3 p4
  all_goals go_wp2_with fail
  all_goals (refine CE.out.mono ?_; rintro e w10 ⟨rfl, m10, rfl⟩)
  all_goals have HF := Lib.hid (hS9.drewN m10)
  all_goals clear hS9 X76 X77
  all_goals go_wp2
  all_goals go_ret
  all_goals exact ⟨rfl, _, HF.out, (updR_ne (by simp)).trans ((updR_ne (by simp)).trans X5.out)⟩
set_option maxRecDepth 100000 in
set_option maxHeartbeats 3200000 in
theorem plays2_cover {w0 : World} (H : St base w 0 hb Q none none wx) {o : Op2} (hI : o.Is w0) (h0 : w0.heap.size ≤ base) (hb0 : Below base w0 w) (hk : o.k = 7) (hmn : o.mn ≤ 900000) :
    Calls Try.prog 14 #[.pointer (some ⟨hb, 0, none⟩), .agg o.cells] wx (PlP base w hb Q) := by
  obtain ⟨kk, sa, sn, sc, s, ta, tn, tc, t, nn, ma, mn, mc, m⟩ := o
  simp only [Op2.cells]
  simp only at hk
  subst hk
  obtain ⟨hS, hT, hM, hnn⟩ := hI
  simp only at hS hT hM hnn hmn
  have SS : Hid (∀ wy, Below base w wy → Ls wy sa sn sc s) := fun wy hy => hS.below (hb0.trans hy) h0
  have TT : Hid (∀ wy, Below base w wy → Ls wy ta tn tc t) := fun wy hy => hT.below (hb0.trans hy) h0
  have MM : Hid (∀ wy, Below base w wy → Lss wy ma mn mc m) := fun wy hy => hM.below (hb0.trans hy) h0
  have S0 := Lib.hid hS
  have T0 := Lib.hid hT
  have M0 := Lib.hid hM
  have H0 := Lib.hid (And.intro h0 hb0)
  have NN := Lib.hid hnn
  obtain ⟨W3, HW3⟩ : ∃ z, Hid (wx.alloc (.cells #[.int .i64 7, .slice sa sn sc, .slice ta tn tc, .int .i64 nn, .slice ma mn mc] 37) = z) := ⟨_, rfl⟩
  obtain ⟨Q3, HQ3⟩ : ∃ z, Hid (updR Q (7, 0, 0) ⟨37, 5, some ⟨wx.heap.size, 0, none⟩, 1, 1, (#[.int .i64 7, .slice sa sn sc, .slice ta tn tc, .int .i64 nn, .slice ma mn mc] : Array Value).toList⟩ = z) := ⟨_, rfl⟩
  have SX := H.alloc (t := (7, 0, 0)) (by simp) (cs := #[.int .i64 7, .slice sa sn sc, .slice ta tn tc, .int .i64 nn, .slice ma mn mc]) (E := 37) (sz := 5) (n := 1) rfl (by decide)
  rw [HW3.out, HQ3.out] at SX
  have X7 : Hid (Q3 (7, 0, 0) = ⟨37, 5, some ⟨wx.heap.size, 0, none⟩, 1, 1, (#[.int .i64 7, .slice sa sn sc, .slice ta tn tc, .int .i64 nn, .slice ma mn mc] : Array Value).toList⟩) := by show _ = _; rw [← HQ3.out, updR_eq]
  have X5 : Hid (Q3 (5, 0, 0) = Q (5, 0, 0)) := by show _ = _; rw [← HQ3.out, updR_ne (by simp)]
  have PP : Hid (∀ (wy : World) (Qy : Nat × Nat × Nat → Rw) (h1 h2 : Option Rw), St base w 0 hb Qy h1 h2 wy → Qy (7, 0, 0) = ⟨37, 5, some ⟨wx.heap.size, 0, none⟩, 1, 1, (#[.int .i64 7, .slice sa sn sc, .slice ta tn tc, .int .i64 nn, .slice ma mn mc] : Array Value).toList⟩ → wy.cell? ⟨wx.heap.size, 1, none⟩ = some (.slice sa sn sc) ∧ wy.cell? ⟨wx.heap.size, 2, none⟩ = some (.slice ta tn tc) ∧ wy.cell? ⟨wx.heap.size, 3, none⟩ = some (.int .i64 nn) ∧ wy.cell? ⟨wx.heap.size, 4, none⟩ = some (.slice ma mn mc)) :=
    fun wy Qy h1 h2 h e => ⟨h.cell (by simp) e 1 _ rfl, h.cell (by simp) e 2 _ rfl, h.cell (by simp) e 3 _ rfl, h.cell (by simp) e 4 _ rfl⟩
  have k0 := SX.cell (by simp) X7.out 0 _ rfl
  obtain ⟨p1, p2, p3, p4⟩ := PP.out W3 Q3 none none SX X7.out
  clear H hS hT hM hnn h0 hb0 HQ3
  go_enter Try.func14, Try.ntmps14
  rw [← HW3.out] at k0
  obtain ⟨v, HV⟩ : ∃ v, Hid ((cvR m).2 = v) := ⟨_, rfl⟩
  have hvv : (v == v) = true := by simp
  have CI := Lib.hid (SX.list M0.out H0.out.1 H0.out.2 hmn)
  have HMN := Lib.hid hmn
  clear hmn
  go_upto_region 30 with fail
  rw [HW3.out]
  clear k0
  go_wp2_with fail
  refine CI.out.mono ?_; rintro e w5 ⟨og, oc, rfl, hS5⟩
  have CM := Lib.hid (cover_any (hS5.lss M0.out))
  rw [HV.out] at CM
  clear CI SX
  go_wp2_with fail
  refine CM.out.mono ?_; rintro e w6 ⟨lo, ln, lc, rfl, hL6, hO6, hB6⟩
  have hS6 := hS5.made (t := (7, 1, 0)) (by simp) hO6 hB6
  have X76 := (updR_ne (R := Q3) (r := lsR lo ln lc (cvR m).1) (show (7, 0, 0) ≠ (7, 1, 0) by simp)).trans X7.out
  have RG := Lib.hid (And.intro hL6.big hL6.rng)
  have CR := Lib.hid (rcover_any (MM.out _ hS6.below))
  rw [HV.out] at CR
  clear hS5 CM hL6 hO6 hB6 p1 p2 p3 p4
  have p4 := hS6.cell (by simp) X76 4 _ rfl
  go_wp2_with fail
  refine CR.out.mono ?_; rintro e w7 ⟨mo, mn', mc', rfl, hL7, hO7, hB7⟩
  have hS7 := hS6.made (t := (7, 2, 0)) (by simp) hO7 hB7
  have X77 := (updR_ne (r := lsR mo mn' mc' (cvR m).1) (show (7, 0, 0) ≠ (7, 2, 0) by simp)).trans X76
  have RG2 := Lib.hid (And.intro hL7.big hL7.rng)
  have CK := Lib.hid (hS7.kept M0.out H0.out.1 H0.out.2 HMN.out)
  clear p4 CR hL7 hO7 hB7 hS6
  have p4 := hS7.cell (by simp) X77 4 _ rfl
  go_wp2_with fail
  refine CK.out.mono ?_; rintro e w8 ⟨rfl, hS8⟩
  have CE := Lib.hid (eqints_self (hS8.ls (t := (7, 1, 0)) (by simp) ((updR_ne (by simp)).trans updR_eq) RG.out.1 RG.out.2) (hS8.ls (t := (7, 2, 0)) (by simp) updR_eq RG2.out.1 RG2.out.2))
  clear p4 CK hS7
  go_wp2_with fail
  refine CE.out.mono ?_; rintro e w9 ⟨rfl, m9, rfl⟩
  have HF := Lib.hid (hS8.drewN m9)
  clear hS8 X76 X77
  go_wp2
  go_ret
  exact ⟨rfl, _, HF.out, (updR_ne (by simp)).trans ((updR_ne (by simp)).trans X5.out)⟩
set_option maxRecDepth 100000 in
set_option maxHeartbeats 3200000 in
theorem plays2_all {w0 : World} (H : St base w 0 hb Q none none wx) {o : Op2} (hI : o.Is w0) (h0 : w0.heap.size ≤ base) (hb0 : Below base w0 w) (hk : o.k = 8) :
    Calls Try.prog 14 #[.pointer (some ⟨hb, 0, none⟩), .agg o.cells] wx (PlP base w hb Q) := by
  obtain ⟨kk, sa, sn, sc, s, ta, tn, tc, t, nn, ma, mn, mc, m⟩ := o
  simp only [Op2.cells]
  simp only at hk
  subst hk
  obtain ⟨hS, hT, hM, hnn⟩ := hI
  simp only at hS hT hM hnn
  have SS : Hid (∀ wy, Below base w wy → Ls wy sa sn sc s) := fun wy hy => hS.below (hb0.trans hy) h0
  have TT : Hid (∀ wy, Below base w wy → Ls wy ta tn tc t) := fun wy hy => hT.below (hb0.trans hy) h0
  have MM : Hid (∀ wy, Below base w wy → Lss wy ma mn mc m) := fun wy hy => hM.below (hb0.trans hy) h0
  have S0 := Lib.hid hS
  have T0 := Lib.hid hT
  have M0 := Lib.hid hM
  have H0 := Lib.hid (And.intro h0 hb0)
  have NN := Lib.hid hnn
  obtain ⟨W3, HW3⟩ : ∃ z, Hid (wx.alloc (.cells #[.int .i64 8, .slice sa sn sc, .slice ta tn tc, .int .i64 nn, .slice ma mn mc] 37) = z) := ⟨_, rfl⟩
  obtain ⟨Q3, HQ3⟩ : ∃ z, Hid (updR Q (7, 0, 0) ⟨37, 5, some ⟨wx.heap.size, 0, none⟩, 1, 1, (#[.int .i64 8, .slice sa sn sc, .slice ta tn tc, .int .i64 nn, .slice ma mn mc] : Array Value).toList⟩ = z) := ⟨_, rfl⟩
  have SX := H.alloc (t := (7, 0, 0)) (by simp) (cs := #[.int .i64 8, .slice sa sn sc, .slice ta tn tc, .int .i64 nn, .slice ma mn mc]) (E := 37) (sz := 5) (n := 1) rfl (by decide)
  rw [HW3.out, HQ3.out] at SX
  have X7 : Hid (Q3 (7, 0, 0) = ⟨37, 5, some ⟨wx.heap.size, 0, none⟩, 1, 1, (#[.int .i64 8, .slice sa sn sc, .slice ta tn tc, .int .i64 nn, .slice ma mn mc] : Array Value).toList⟩) := by show _ = _; rw [← HQ3.out, updR_eq]
  have X5 : Hid (Q3 (5, 0, 0) = Q (5, 0, 0)) := by show _ = _; rw [← HQ3.out, updR_ne (by simp)]
  have PP : Hid (∀ (wy : World) (Qy : Nat × Nat × Nat → Rw) (h1 h2 : Option Rw), St base w 0 hb Qy h1 h2 wy → Qy (7, 0, 0) = ⟨37, 5, some ⟨wx.heap.size, 0, none⟩, 1, 1, (#[.int .i64 8, .slice sa sn sc, .slice ta tn tc, .int .i64 nn, .slice ma mn mc] : Array Value).toList⟩ → wy.cell? ⟨wx.heap.size, 1, none⟩ = some (.slice sa sn sc) ∧ wy.cell? ⟨wx.heap.size, 2, none⟩ = some (.slice ta tn tc) ∧ wy.cell? ⟨wx.heap.size, 3, none⟩ = some (.int .i64 nn) ∧ wy.cell? ⟨wx.heap.size, 4, none⟩ = some (.slice ma mn mc)) :=
    fun wy Qy h1 h2 h e => ⟨h.cell (by simp) e 1 _ rfl, h.cell (by simp) e 2 _ rfl, h.cell (by simp) e 3 _ rfl, h.cell (by simp) e 4 _ rfl⟩
  have k0 := SX.cell (by simp) X7.out 0 _ rfl
  obtain ⟨p1, p2, p3, p4⟩ := PP.out W3 Q3 none none SX X7.out
  clear H hS hT hM hnn h0 hb0 HQ3
  go_enter Try.func14, Try.ntmps14
  rw [← HW3.out] at k0
  have CI1 := Lib.hid (SX.drew.ints1 SS.out)
  go_upto_region 34 with fail
  rw [HW3.out]
  clear k0
  go_region_held3 (fun wx2 => wx2.cell? ⟨wx.heap.size, 1, none⟩ = some (.slice sa sn sc)) (go_keep)
    (first
    | (go_at_call 50; (with_reducible refine Calls.mono (CI1.out) ?_); rintro e w5 ⟨g1, d1, rfl, hd1, hS5⟩; clear p1 p2 p3 p4; obtain ⟨p1, p2, p3, p4⟩ := PP.out _ _ _ _ hS5 X7.out; have CM := Lib.hid (hS5.all (by simp) (hS5.ls1 S0.out hd1)))
    | (go_at_call 49; (with_reducible refine Calls.mono (CM.out) ?_); rintro e w6 ⟨bn, bs, so, sn', sc', Q6, rfl, hS6, k1, k2, k3, kN⟩; have X76 := (kN (7, 0, 0) (by simp) (by simp) (by simp)).trans X7.out; clear p1 p2 p3 p4; obtain ⟨p1, p2, p3, p4⟩ := PP.out _ _ _ _ hS6 X76))
  have CK := Lib.hid (hS6.drew.kept1 SS.out)
  have HK := Lib.hid (And.intro k1 (And.intro k2 k3))
  have HN := Lib.hid kN
  clear SX CI1 CM hS5 k1 k2 k3 kN
  try simp only [seqV]
  go_upto_region 35 with fail
  go_region_held3 (fun wx2 => wx2.cell? ⟨wx.heap.size, 1, none⟩ = some (.slice sa sn sc) ∧ wx2.cell? ⟨wx.heap.size, 3, none⟩ = some (.int .i64 nn)) (go_keep)
    (first
    | (go_at_call 51; (with_reducible refine Calls.mono (CK.out) ?_); rintro e w8 ⟨rfl, hS8⟩; clear p1 p2 p3 p4; obtain ⟨p1, p2, p3, p4⟩ := PP.out _ _ _ _ hS8 X76; have CW := Lib.hid (walks_any (SS.out _ hS8.below) (hS8.seqAt (by simp) HK.out.1 HK.out.2.1 HK.out.2.2 (by rw [S0.out.len]; exact S0.out.big) S0.out.rng) nn); have CV := Lib.hid (fun wz (hz : Below w8.heap.size w8 wz) => walks_any (SS.out _ (hS8.via hz).below) ((hS8.via hz).seqAt (by simp) HK.out.1 HK.out.2.1 HK.out.2.2 (by rw [S0.out.len]; exact S0.out.big) S0.out.rng) 0); simp only [seqV] at CW CV)
    | (go_at_call 48; (with_reducible refine Calls.mono (CW.out) ?_); rintro e w9 ⟨rfl, hB9⟩; have hS9 := hS8.via hB9; clear p1 p2 p3 p4; obtain ⟨p1, p2, p3, p4⟩ := PP.out _ _ _ _ hS9 X76)
    | (go_at_call 48; (with_reducible refine Calls.mono (CV.out _ hB9) ?_); rintro e w10 ⟨rfl, hB10⟩; have hS10 := hS9.via hB10; clear p1 p2 p3 p4; obtain ⟨p1, p2, p3, p4⟩ := PP.out _ _ _ _ hS10 X76))
  have HF := Lib.hid hS10
  clear hS8 hS9 hS10 X76 p1 p2 p3 p4
  go_wp2
  go_ret
  exact ⟨rfl, _, HF.out, (HN.out (5, 0, 0) (by simp) (by simp) (by simp)).trans X5.out⟩
set_option maxRecDepth 100000 in
set_option maxHeartbeats 3200000 in
theorem plays2_none {w0 : World} (H : St base w 0 hb Q none none wx) {o : Op2} (hI : o.Is w0) (h0 : w0.heap.size ≤ base) (hb0 : Below base w0 w) (hk : o.k ≠ 1 ∧ o.k ≠ 2 ∧ o.k ≠ 3 ∧ o.k ≠ 4 ∧ o.k ≠ 5 ∧ o.k ≠ 6 ∧ o.k ≠ 7 ∧ o.k ≠ 8) :
    Calls Try.prog 14 #[.pointer (some ⟨hb, 0, none⟩), .agg o.cells] wx (PlP base w hb Q) := by
  obtain ⟨kk, sa, sn, sc, s, ta, tn, tc, t, nn, ma, mn, mc, m⟩ := o
  simp only [Op2.cells]
  obtain ⟨hS, hT, hM, hnn⟩ := hI
  simp only at hS hT hM hnn
  have SS : Hid (∀ wy, Below base w wy → Ls wy sa sn sc s) := fun wy hy => hS.below (hb0.trans hy) h0
  have TT : Hid (∀ wy, Below base w wy → Ls wy ta tn tc t) := fun wy hy => hT.below (hb0.trans hy) h0
  have MM : Hid (∀ wy, Below base w wy → Lss wy ma mn mc m) := fun wy hy => hM.below (hb0.trans hy) h0
  have S0 := Lib.hid hS
  have T0 := Lib.hid hT
  have M0 := Lib.hid hM
  have H0 := Lib.hid (And.intro h0 hb0)
  have NN := Lib.hid hnn
  obtain ⟨W3, HW3⟩ : ∃ z, Hid (wx.alloc (.cells #[.int .i64 kk, .slice sa sn sc, .slice ta tn tc, .int .i64 nn, .slice ma mn mc] 37) = z) := ⟨_, rfl⟩
  obtain ⟨Q3, HQ3⟩ : ∃ z, Hid (updR Q (7, 0, 0) ⟨37, 5, some ⟨wx.heap.size, 0, none⟩, 1, 1, (#[.int .i64 kk, .slice sa sn sc, .slice ta tn tc, .int .i64 nn, .slice ma mn mc] : Array Value).toList⟩ = z) := ⟨_, rfl⟩
  have SX := H.alloc (t := (7, 0, 0)) (by simp) (cs := #[.int .i64 kk, .slice sa sn sc, .slice ta tn tc, .int .i64 nn, .slice ma mn mc]) (E := 37) (sz := 5) (n := 1) rfl (by decide)
  rw [HW3.out, HQ3.out] at SX
  have X7 : Hid (Q3 (7, 0, 0) = ⟨37, 5, some ⟨wx.heap.size, 0, none⟩, 1, 1, (#[.int .i64 kk, .slice sa sn sc, .slice ta tn tc, .int .i64 nn, .slice ma mn mc] : Array Value).toList⟩) := by show _ = _; rw [← HQ3.out, updR_eq]
  have X5 : Hid (Q3 (5, 0, 0) = Q (5, 0, 0)) := by show _ = _; rw [← HQ3.out, updR_ne (by simp)]
  have PP : Hid (∀ (wy : World) (Qy : Nat × Nat × Nat → Rw) (h1 h2 : Option Rw), St base w 0 hb Qy h1 h2 wy → Qy (7, 0, 0) = ⟨37, 5, some ⟨wx.heap.size, 0, none⟩, 1, 1, (#[.int .i64 kk, .slice sa sn sc, .slice ta tn tc, .int .i64 nn, .slice ma mn mc] : Array Value).toList⟩ → wy.cell? ⟨wx.heap.size, 1, none⟩ = some (.slice sa sn sc) ∧ wy.cell? ⟨wx.heap.size, 2, none⟩ = some (.slice ta tn tc) ∧ wy.cell? ⟨wx.heap.size, 3, none⟩ = some (.int .i64 nn) ∧ wy.cell? ⟨wx.heap.size, 4, none⟩ = some (.slice ma mn mc)) :=
    fun wy Qy h1 h2 h e => ⟨h.cell (by simp) e 1 _ rfl, h.cell (by simp) e 2 _ rfl, h.cell (by simp) e 3 _ rfl, h.cell (by simp) e 4 _ rfl⟩
  have k0 := SX.cell (by simp) X7.out 0 _ rfl
  obtain ⟨p1, p2, p3, p4⟩ := PP.out W3 Q3 none none SX X7.out
  clear H hS hT hM hnn h0 hb0 HQ3
  go_enter Try.func14, Try.ntmps14
  rw [← HW3.out] at k0
  obtain ⟨k1, k2, k3, k4, k5, k6, k7, k8⟩ := hk
  simp only at k1 k2 k3 k4 k5 k6 k7 k8
  replace k1 : (kk == 1) = false := by simpa using k1
  replace k2 : (kk == 2) = false := by simpa using k2
  replace k3 : (kk == 3) = false := by simpa using k3
  replace k4 : (kk == 4) = false := by simpa using k4
  replace k5 : (kk == 5) = false := by simpa using k5
  replace k6 : (kk == 6) = false := by simpa using k6
  replace k7 : (kk == 7) = false := by simpa using k7
  replace k8 : (kk == 8) = false := by simpa using k8
  have HF := Lib.hid SX
  clear SX p1 p2 p3 p4
  go_wp2_with fail
  rw [HW3.out]
  clear k0
  go_wp2
  go_ret
  exact ⟨rfl, _, HF.out, X5.out⟩
theorem plays2_any {w0 : World} (H : St base w 0 hb Q none none wx) {o : Op2} (hI : o.Is w0) (h0 : w0.heap.size ≤ base) (hb0 : Below base w0 w) (hmn : o.mn ≤ 900000) :
    Calls Try.prog 14 #[.pointer (some ⟨hb, 0, none⟩), .agg o.cells] wx (PlP base w hb Q) := by
  by_cases k1 : o.k = 1
  · exact plays2_may H hI h0 hb0 k1
  by_cases k2 : o.k = 2
  · exact plays2_size H hI h0 hb0 k2
  by_cases k3 : o.k = 3
  · exact plays2_place H hI h0 hb0 k3
  by_cases k4 : o.k = 4
  · exact plays2_at H hI h0 hb0 k4
  by_cases k5 : o.k = 5
  · exact plays2_split H hI h0 hb0 k5
  by_cases k6 : o.k = 6
  · exact plays2_agree H hI h0 hb0 k6
  by_cases k7 : o.k = 7
  · exact plays2_cover H hI h0 hb0 k7 hmn
  by_cases k8 : o.k = 8
  · exact plays2_all H hI h0 hb0 k8
  exact plays2_none H hI h0 hb0 ⟨k1, k2, k3, k4, k5, k6, k7, k8⟩
end
end Go.Proofs.Ytdedbfbkakofgaa

namespace Go.Proofs.Ytdedbfbkakofgaa
open Go.RowKit Go.Lib
set_option linter.unusedVariables false
set_option linter.unusedSimpArgs false
attribute [local go_sem] alloc_drewN setCell_drewN
/-- How much a call is handed. -/
def SizeP (mn : Nat) (w : World) (e : Ending) (w' : World) : Prop := ∃ N : Int, e = .returned (.int .i64 N) ∧ 0 ≤ N ∧ N ≤ 35184372087808 ∧ (N < 4194304 → 10 * (mn : Int) ≤ N) ∧ Below w.heap.size w w'
set_option maxRecDepth 100000 in
set_option maxHeartbeats 1600000 in
theorem size2_any {w : World} {o : Op2} (hI : o.Is w) : Calls Try.prog 13 #[.agg o.cells] w (SizeP o.mn w) := by
  obtain ⟨kk, sa, sn, sc, s, ta, tn, tc, t, nn, ma, mn, mc, m⟩ := o
  simp only [Op2.cells]
  obtain ⟨hS, hT, hM, hnn⟩ := hI
  simp only at hS hT hM hnn
  have b1 := hS.big
  have b2 := hT.big
  have b3 := hM.big
  obtain ⟨W3, HW3⟩ : ∃ z, Hid (w.alloc (.cells #[.int .i64 kk, .slice sa sn sc, .slice ta tn tc, .int .i64 nn, .slice ma mn mc] 37) = z) := ⟨_, rfl⟩
  have hb3 : Below w.heap.size w W3 := by rw [← HW3.out]; exact abal _ _
  have p1 : (w.alloc (.cells #[.int .i64 kk, .slice sa sn sc, .slice ta tn tc, .int .i64 nn, .slice ma mn mc] 37)).cell? ⟨w.heap.size, 1, none⟩ = some (.slice sa sn sc) := by simp [go_sem]
  have p2 : (w.alloc (.cells #[.int .i64 kk, .slice sa sn sc, .slice ta tn tc, .int .i64 nn, .slice ma mn mc] 37)).cell? ⟨w.heap.size, 2, none⟩ = some (.slice ta tn tc) := by simp [go_sem]
  have p4 : W3.cell? ⟨w.heap.size, 4, none⟩ = some (.slice ma mn mc) := by rw [← HW3.out]; simp [go_sem]
  have HB3 := Lib.hid hb3
  have HM := Lib.hid (hM.below hb3 (Nat.le_refl _))
  clear hS hT hM hnn hb3
  go_enter Try.func13, Try.ntmps13
  go_upto_region 2 with fail
  rw [HW3.out]
  clear p1 p2
  have P4 := Lib.hid p4
  go_wp2_with fail
  go_loopw [3, 4] (fun v3 v4 wr => ∃ (k : Nat) (N : Int), k ≤ mn ∧ v4 = .int .i64 k ∧ v3 = .int .i64 N ∧ 0 ≤ N ∧ N ≤ 35184372087808 ∧ 10 * (k : Int) ≤ N ∧ wr = W3) (fun _ v4 _ => mn - (RowKit.intOf v4).toNat)
  case atStart => exact ⟨0, (sn : Int) + tn, Nat.zero_le _, rfl, by go_num, by omega, by omega, by omega, rfl⟩
  case round =>
    obtain ⟨k, N, hk, rfl, rfl, hN0, hN1, hkN, rfl⟩ := hrel
    have p4 := P4.out
    by_cases hlt : k < mn
    · have hlt' : (k : Int) < mn := by omega
      by_cases hN : N < 4194304
      · obtain ⟨lb, lo, rfl, hlb, hcs⟩ := HM.out.mem (by omega)
        obtain ⟨ai, ni, ci, dl, hls⟩ := hcs k hlt
        have b4 := hls.big
        clear hcs hls hlb
        go_wp2
        go_roundw
        case rel => exact ⟨k + 1, N + 10 + ni, by omega, by go_num, by go_num, by omega, by omega, by omega, by first | rfl | trivial⟩
        case measure => simp [RowKit.intOf]; omega
      · have hge : (4194304 : Int) ≤ N := by omega
        go_wp2
        go_ret
        exact ⟨N, rfl, hN0, hN1, fun h => by omega, HB3.out⟩
    · have hge : (mn : Int) ≤ k := by omega
      go_wp2
      go_ret
      exact ⟨N, rfl, hN0, hN1, fun h => by omega, HB3.out⟩
section
variable {base : Nat} {w wx : World} {Q : Nat × Nat × Nat → Rw} {hb : Nat}
set_option maxRecDepth 100000 in
set_option maxHeartbeats 1600000 in
theorem over2_any {o wb : Nat} {h1 h2 : Option Rw} {n N : Int} (H : St base w o hb Q h1 h2 wx) (ho : o ≠ 5) (e : Q (5, 0, 0) = ⟨34, 1, some ⟨wb, 0, none⟩, 1, 1, [.int .i64 n]⟩) (hn : 0 ≤ n ∧ n ≤ 4194304) (hN : 0 ≤ N ∧ N ≤ 35184372087808) :
    Calls Try.prog 12 #[.pointer (some ⟨wb, 0, none⟩), .int .i64 N] wx (fun e' w' => e' = .returned (.bool (decide (4194304 < n + 100 + N))) ∧ St base w o hb (updR Q (5, 0, 0) ⟨34, 1, some ⟨wb, 0, none⟩, 1, 1, [.int .i64 (n + 100 + N)]⟩) h1 h2 w') := by
  have d0 := H.cell (t := (5, 0, 0)) (fun h => ho h.symm) e 0 _ rfl
  have f0 := H.frozen (t := (5, 0, 0)) (fun h => ho h.symm) e 0
  have hP := H.put (t := (5, 0, 0)) (fun h => ho h.symm) e 0 (.int .i64 (n + 100 + N))
  have HP := Lib.hid hP
  clear H e hP
  go_enter Try.func12, Try.ntmps12
  go_wp2
  go_ret
  exact ⟨rfl, HP.out⟩
end
/-- No row is held yet. -/
def hn0 (t : Nat × Nat × Nat) : Rw := ⟨if t = (0, 3, 0) then 27 else if t = (0, 5, 0) then 25 else 3, 1, none, 0, 0, []⟩
theorem hold0 (w : World) : Hold w.heap.size w hn0 := ⟨fun t => World.ownsRow_nil _ _ _ _, fun t s _ g hg => absurd hg (by simp [hn0, Rw.v, Value.ownBlock]), Nat.le_refl _⟩
theorem st_new {w w1 : World} (hb : Below w.heap.size w w1) :
    St w.heap.size w 0 w1.heap.size (updR (updR hn0 (0, 0, 0) ⟨31, 4, some ⟨w1.heap.size, 0, none⟩, 1, 1, [.slice none 0 0, .slice none 0 0, .slice none 0 0, .slice none 0 0]⟩) (5, 0, 0) ⟨34, 1, some ⟨w1.heap.size + 1, 0, none⟩, 1, 1, [.int .i64 0]⟩) none none
      ((w1.alloc (.cells #[.slice none 0 0, .slice none 0 0, .slice none 0 0, .slice none 0 0] 31)).alloc (.cells #[.int .i64 0] 34)) := by
  have h1 : Hold w.heap.size w1 hn0 := (hold0 w).via hb
  have h2 := h1.alloc (0, 0, 0) (cs := #[.slice none 0 0, .slice none 0 0, .slice none 0 0, .slice none 0 0]) (E := 31) (sz := 4) (n := 1) rfl (by decide)
  have h3 := h2.alloc (5, 0, 0) (cs := #[.int .i64 0]) (E := 34) (sz := 1) (n := 1) rfl (by decide)
  simp only [World.size_alloc] at h3
  refine ⟨0, _, h3, ⟨?_, ?_, ?_, ⟨none, 0, ?_⟩, fun k hk => absurd hk (Nat.not_lt_zero _), ⟨none, 0, 0, [], ?_⟩, Nat.zero_le _⟩, fun t ht => ?_, fun r e => absurd e (by simp), fun r e => absurd e (by simp), hb.trans ((abvia (abal _ _) (abal _ _)).mono hb.size)⟩
  · rw [updR_ne (by simp), updR_eq]; rfl
  · exact ⟨none, 0, [], by rw [updR_ne (by simp), updR_ne (by simp)]; rfl⟩
  · exact ⟨none, 0, [], by rw [updR_ne (by simp), updR_ne (by simp)]; rfl⟩
  · rw [updR_ne (by simp), updR_ne (by simp)]; rfl
  · rw [updR_ne (by simp), updR_ne (by simp)]; rfl
  · rfl
set_option maxRecDepth 100000 in
set_option maxHeartbeats 3200000 in
theorem walkShapeAll {w : World} {ao : Option Addr} {n c : Nat} {os : Nat → Op2} (hO : Op2s w ao n c os) :
    Calls Try.prog 3 #[.slice ao n c] w (RetB w (.bool true)) := by
  have BG := Lib.hid (begun2_any w)
  have hbig := hO.big
  have HOP := Lib.hid hO
  clear hO
  go_enter Try.func3, Try.ntmps3
  go_wp2_with fail
  refine BG.out.mono ?_; rintro e w1 ⟨rfl, hb1⟩
  obtain ⟨W2, HW2⟩ : ∃ z, Hid ((w1.alloc (.cells #[.slice none 0 0, .slice none 0 0, .slice none 0 0, .slice none 0 0] 31)).alloc (.cells #[.int .i64 0] 34) = z) := ⟨_, rfl⟩
  have hS := st_new hb1
  rw [HW2.out] at hS
  obtain ⟨Q0, HQ0⟩ : ∃ z, Hid (updR (updR hn0 (0, 0, 0) ⟨31, 4, some ⟨w1.heap.size, 0, none⟩, 1, 1, [.slice none 0 0, .slice none 0 0, .slice none 0 0, .slice none 0 0]⟩) (5, 0, 0) ⟨34, 1, some ⟨w1.heap.size + 1, 0, none⟩, 1, 1, [.int .i64 0]⟩ = z) := ⟨_, rfl⟩
  have HQ5 : Hid (Q0 (5, 0, 0) = ⟨34, 1, some ⟨w1.heap.size + 1, 0, none⟩, 1, 1, [.int .i64 0]⟩) := by show _ = _; rw [← HQ0.out, updR_eq]
  rw [HQ0.out] at hS
  have HS := Lib.hid hS
  clear hS hb1
  go_wp2_with fail
  rw [HW2.out]
  go_loopw [5] (fun v5 wr => ∃ (k : Nat) (n0 : Int) (Q : Nat × Nat × Nat → Rw), k ≤ n ∧ v5 = .int .i64 k ∧ 0 ≤ n0 ∧ n0 ≤ 4194304 ∧ Hid (St w.heap.size w 0 w1.heap.size Q none none wr) ∧ Hid (Q (5, 0, 0) = ⟨34, 1, some ⟨w1.heap.size + 1, 0, none⟩, 1, 1, [.int .i64 n0]⟩)) (fun v5 _ => n - (RowKit.intOf v5).toNat)
  case atStart => exact ⟨0, 0, Q0, Nat.zero_le _, rfl, by omega, by omega, HS, HQ5⟩
  case round =>
    clear HS HQ5
    obtain ⟨k, n0, Q, hk, rfl, hn1, hn2, HS, HQ⟩ := hrel
    by_cases hlt : k < n
    · have hlt' : (k : Int) < n := by omega
      obtain ⟨b, off, rfl, hbl, hcs⟩ := HOP.out.mem (by omega)
      have hck := hcs k hlt
      have HIS := Lib.hid (HOP.out.is k hlt)
      obtain ⟨o, HOK⟩ : ∃ o, Hid (os k = o) := ⟨_, rfl⟩
      rw [HOK.out] at hck HIS
      have CZ := Lib.hid (size2_any (HIS.out.below HS.out.below (Nat.le_refl _)))
      have CP := Lib.hid (fun (wy : World) (Qy : Nat × Nat × Nat → Rw) (h : St w.heap.size w 0 w1.heap.size Qy none none wy) (hm : o.mn ≤ 900000) => plays2_any h HIS.out (Nat.le_refl _) (Below.refl _ _) hm)
      obtain ⟨kk, sa, sn, sc, s, ta, tn, tc, t, nn, ma, mn, mc, m⟩ := o
      simp only [Op2.cells] at CP CZ
      have HSC : Hid (∀ wy, Below w.heap.size w wy → ∀ j v, (Op2.cells ⟨kk, sa, sn, sc, s, ta, tn, tc, t, nn, ma, mn, mc, m⟩)[j]? = some v → wy.cell? ⟨b, off + (k * 5 + j), none⟩ = some v) := fun wy hy j v hj =>
        (hy.cell (p := ⟨b, off + (k * 5 + j), none⟩) hbl).trans (hck j v hj)
      have d0 : wr.cell? ⟨b, off + k * 5, none⟩ = some (.int .i64 kk) := by exact HSC.out wr HS.out.below 0 _ rfl
      have d1 : wr.cell? ⟨b, off + k * 5 + 1, none⟩ = some (.slice sa sn sc) := by rw [Nat.add_assoc]; exact HSC.out wr HS.out.below 1 _ rfl
      have d2 : wr.cell? ⟨b, off + k * 5 + 2, none⟩ = some (.slice ta tn tc) := by rw [Nat.add_assoc]; exact HSC.out wr HS.out.below 2 _ rfl
      have d3 : wr.cell? ⟨b, off + k * 5 + 3, none⟩ = some (.int .i64 nn) := by rw [Nat.add_assoc]; exact HSC.out wr HS.out.below 3 _ rfl
      have d4 : wr.cell? ⟨b, off + k * 5 + 4, none⟩ = some (.slice ma mn mc) := by rw [Nat.add_assoc]; exact HSC.out wr HS.out.below 4 _ rfl
      clear hcs hck
      go_wp2_with fail
      refine CZ.out.mono ?_; rintro e w3 ⟨N, rfl, hN0, hN1, hN2, hB3⟩
      have hS3 := HS.out.via hB3
      have CO := Lib.hid (over2_any hS3 (by simp) HQ.out ⟨hn1, hn2⟩ ⟨hN0, hN1⟩)
      have HN2 := Lib.hid hN2
      clear hS3 hB3 hN2 d0 d1 d2 d3 d4
      obtain ⟨T, hT⟩ : ∃ T : Int, n0 + 100 + N = T := ⟨_, rfl⟩
      have HT := Lib.hid hT
      rw [hT] at CO
      clear hT
      by_cases hov : 4194304 < T
      · have hdd : decide (4194304 < T) = true := by simpa using hov
        rw [hdd] at CO
        go_wp2_with fail
        refine CO.out.mono ?_; rintro e w4 ⟨rfl, hS4⟩
        have HF := Lib.hid hS4.below
        clear hS4
        go_wp2
        go_ret
        exact RetB.mk rfl HF.out
      · have hdd : decide (4194304 < T) = false := by simpa using hov
        rw [hdd] at CO
        go_wp2_with fail
        refine CO.out.mono ?_; rintro e w4 ⟨rfl, hS4⟩
        have hmn : mn ≤ 900000 := by have h1 := HT.out; have h2 := HN2.out (by omega); omega
        have hT0 : 0 ≤ T := by have := HT.out; omega
        have hT1 : T ≤ 4194304 := by omega
        have CP4 := Lib.hid (CP.out w4 _ hS4 hmn)
        have d0 : w4.cell? ⟨b, off + k * 5, none⟩ = some (.int .i64 kk) := by exact HSC.out w4 hS4.below 0 _ rfl
        have d1 : w4.cell? ⟨b, off + k * 5 + 1, none⟩ = some (.slice sa sn sc) := by rw [Nat.add_assoc]; exact HSC.out w4 hS4.below 1 _ rfl
        have d2 : w4.cell? ⟨b, off + k * 5 + 2, none⟩ = some (.slice ta tn tc) := by rw [Nat.add_assoc]; exact HSC.out w4 hS4.below 2 _ rfl
        have d3 : w4.cell? ⟨b, off + k * 5 + 3, none⟩ = some (.int .i64 nn) := by rw [Nat.add_assoc]; exact HSC.out w4 hS4.below 3 _ rfl
        have d4 : w4.cell? ⟨b, off + k * 5 + 4, none⟩ = some (.slice ma mn mc) := by rw [Nat.add_assoc]; exact HSC.out w4 hS4.below 4 _ rfl
        clear hS4 hov
        go_wp2_with fail
        refine CP4.out.mono ?_; rintro e w5 ⟨rfl, Q5, hS5, hq5⟩
        rw [updR_eq] at hq5
        have HS5 := Lib.hid hS5
        have HQ5 := Lib.hid hq5
        clear hS5 hq5 d0 d1 d2 d3 d4
        go_wp2
        go_roundw
        case rel => exact ⟨k + 1, T, Q5, by omega, by go_num, hT0, hT1, HS5, HQ5⟩
        case measure => simp [RowKit.intOf]; omega
    · have hge : (n : Int) ≤ k := by omega
      go_wp2
      go_ret
      exact RetB.mk rfl HS.out.below
end Go.Proofs.Ytdedbfbkakofgaa

/- AtomAll: the walk of the statement's function. -/
import Derived.Test.YtdedbfbkakofgaaAtomAllM25
import Derived.Test.YtdedbfbkakofgaaAtomAllM26
namespace Go.Proofs.Ytdedbfbkakofgaa
open Go.RowKit Go.Lib
set_option linter.unusedVariables false
set_option linter.unusedSimpArgs false
attribute [local go_sem] alloc_drewN setCell_drewN

/-- Both hands at a round's head. -/
structure RndI (w wr : World) (hb gb : Nat) (H G : Hd) : Prop where
  h : H.Is w.heap.size wr
  g : G.Is w.heap.size wr
  eh : H.hb = hb
  eg : G.hb = gb
  dis : ∀ j, H.foot j → ¬ G.foot j
  below : Below w.heap.size w wr
theorem RndI.via {w wr wx : World} {hb gb : Nat} {H G : Hd} (h : RndI w wr hb gb H G) (hb' : Below wr.heap.size wr wx) : RndI w wx hb gb H G :=
  ⟨h.h.via hb', h.g.via hb', h.eh, h.eg, h.dis, abvia h.below hb'⟩
theorem RndI.new {w w1 : World} (T : TypeId) (h : Below w.heap.size w w1) : RndI w ((w1.alloc (.cells #[.slice none 0 0, .slice none 0 0] T)).alloc (.cells #[.slice none 0 0, .slice none 0 0] T)) w1.heap.size (w1.heap.size + 1) ⟨w1.heap.size, none, 0, none, 0, [], []⟩ ⟨w1.heap.size + 1, none, 0, none, 0, [], []⟩ := by
  have hs := h.size
  refine ⟨⟨(BoxA.new _ _ _ _).via (abal _ _), World.ownsRow_nil _ _ _ _, World.ownsRow_nil _ _ _ _, hs, by simp [Value.ownBlock], by simp [Value.ownBlock], fun g hg => by simp [Value.ownBlock] at hg, .inl ⟨rfl, rfl⟩⟩,
    ⟨by simpa using BoxA.new (w1.alloc (.cells #[.slice none 0 0, .slice none 0 0] T)) T (.slice none 0 0) (.slice none 0 0), World.ownsRow_nil _ _ _ _, World.ownsRow_nil _ _ _ _, by simp only; omega, by simp [Value.ownBlock], by simp [Value.ownBlock], fun g hg => by simp [Value.ownBlock] at hg, .inl ⟨rfl, rfl⟩⟩, rfl, rfl, ?_, abvia h (abvia (abal _ _) (abal _ _))⟩
  intro j hj hg
  rcases hj with hj | hj | hj
  · rcases hg with hg | hg | hg
    · simp only at hj hg; omega
    · simp [Value.ownBlock] at hg
    · simp [Value.ownBlock] at hg
  · simp [Value.ownBlock] at hj
  · simp [Value.ownBlock] at hj
/-- A block of cells that may be written. -/
structure BoxN (W : World) (b : Nat) (vs : Array Value) : Prop where
  c : ∀ j v, vs[j]? = some v → W.cell? ⟨b, j, none⟩ = some v
  f : ∀ j, W.frozen? ⟨b, j, none⟩ = false
  lt : b < W.heap.size
theorem BoxN.out {F : Nat → Prop} {W W' : World} {b : Nat} {vs : Array Value} (h : BoxN W b vs) (ho : Out F W W') (hn : ¬ F b) : BoxN W' b vs :=
  ⟨fun j v hj => (ho.cell (p := ⟨b, j, none⟩) h.lt hn).trans (h.c j v hj), fun j => (ho.frozen (p := ⟨b, j, none⟩) h.lt hn).trans (h.f j), Nat.lt_of_lt_of_le h.lt ho.size⟩
theorem BoxN.new (W : World) (vs : Array Value) (T : TypeId) : BoxN (W.alloc (.cells vs T)) W.heap.size vs :=
  ⟨fun j v hj => by rw [World.cell?_alloc_at _ _ _ _ rfl]; exact hj, fun j => World.frozen?_alloc_at _ _ _ _ rfl, by simp⟩
theorem BoxN.set34 {W : World} {b : Nat} {c0 c1 c2 c3 c4 c5 c6 : Value} (h : BoxN W b #[c0, c1, c2, c3, c4, c5, c6]) (u v : Value) : BoxN ((W.setCell ⟨b, 3, none⟩ u).setCell ⟨b, 4, none⟩ v) b #[c0, c1, c2, u, v, c5, c6] := by
  have e0 := h.c 0 _ rfl
  have e1 := h.c 1 _ rfl
  have e2 := h.c 2 _ rfl
  have e3 := h.c 3 _ rfl
  have e4 := h.c 4 _ rfl
  have e5 := h.c 5 _ rfl
  have e6 := h.c 6 _ rfl
  refine ⟨fun j x hj => ?_, fun j => ?_, by simpa using h.lt⟩
  · match j, hj with
    | 0, hj => simp at hj; subst hj; simp [go_sem, *]
    | 1, hj => simp at hj; subst hj; simp [go_sem, *]
    | 2, hj => simp at hj; subst hj; simp [go_sem, *]
    | 3, hj => simp at hj; subst hj; simp [go_sem, *]
    | 4, hj => simp at hj; subst hj; simp [go_sem, *]
    | 5, hj => simp at hj; subst hj; simp [go_sem, *]
    | 6, hj => simp at hj; subst hj; simp [go_sem, *]
    | j + 7, hj => simp at hj
  · have := h.f j
    simp [go_sem, *]
theorem BoxN.set56 {W : World} {b : Nat} {c0 c1 c2 c3 c4 c5 c6 : Value} (h : BoxN W b #[c0, c1, c2, c3, c4, c5, c6]) (u v : Value) : BoxN ((W.setCell ⟨b, 5, none⟩ u).setCell ⟨b, 6, none⟩ v) b #[c0, c1, c2, c3, c4, u, v] := by
  have e0 := h.c 0 _ rfl
  have e1 := h.c 1 _ rfl
  have e2 := h.c 2 _ rfl
  have e3 := h.c 3 _ rfl
  have e4 := h.c 4 _ rfl
  have e5 := h.c 5 _ rfl
  have e6 := h.c 6 _ rfl
  refine ⟨fun j x hj => ?_, fun j => ?_, by simpa using h.lt⟩
  · match j, hj with
    | 0, hj => simp at hj; subst hj; simp [go_sem, *]
    | 1, hj => simp at hj; subst hj; simp [go_sem, *]
    | 2, hj => simp at hj; subst hj; simp [go_sem, *]
    | 3, hj => simp at hj; subst hj; simp [go_sem, *]
    | 4, hj => simp at hj; subst hj; simp [go_sem, *]
    | 5, hj => simp at hj; subst hj; simp [go_sem, *]
    | 6, hj => simp at hj; subst hj; simp [go_sem, *]
    | j + 7, hj => simp at hj
  · have := h.f j
    simp [go_sem, *]
theorem two_out (W : World) (b i j : Nat) (u v : Value) : Out (fun q => q = b) W ((W.setCell ⟨b, i, none⟩ u).setCell ⟨b, j, none⟩ v) := (one_out W b i u).setCell (p := ⟨b, j, none⟩) (.inl rfl) v
/-- An array of the call's own behind writes elsewhere. -/
theorem Ar.Own.out {B : Ar} {w w' : World} {base : Nat} {F : Nat → Prop} (h : B.Own w base) (hI : B.Is w) (ho : Out F w w') (hF : ∀ j, base ≤ j → j < w.heap.size → ¬ F j) : B.Own w' base ∧ B.Is w' := by
  have o1 := ho.own h.shp (fun g hg => hF g (own_block h.shp hg).1 (own_block h.shp hg).2)
  have o2 := ho.own h.ats (fun g hg => hF g (own_block h.ats hg).1 (own_block h.ats hg).2)
  exact ⟨⟨o1, o2, h.two⟩, ⟨ls_of_own o1 hI.shp.big hI.shp.rng, ls_of_own o2 hI.ats.big hI.ats.rng⟩⟩
set_option maxRecDepth 100000 in
set_option maxHeartbeats 6400000 in
theorem walkAtomAll {w : World} {ao : Option Addr} {n c : Nat} {os : Nat → Opv} (hO : Ops w ao n c os) :
    Calls Try.prog 7 #[.slice ao n c] w (RetB w (.bool true)) := by
  have BG := Lib.hid (begun5_any w)
  have hbig := hO.big
  have HOP := Lib.hid hO
  clear hO
  go_enter Try.func7, Try.ntmps7
  go_wp2_with fail
  refine BG.out.mono ?_; rintro e w1 ⟨rfl, hb1⟩
  have HV1 := Lib.hid hb1
  clear hb1
  obtain ⟨W2, HW2⟩ : ∃ z, Hid ((w1.alloc (.cells #[.slice none 0 0, .slice none 0 0] 52)).alloc (.cells #[.slice none 0 0, .slice none 0 0] 52) = z) := ⟨_, rfl⟩
  have HR0 : Hid (RndI w W2 w1.heap.size (w1.heap.size + 1) ⟨w1.heap.size, none, 0, none, 0, [], []⟩ ⟨w1.heap.size + 1, none, 0, none, 0, [], []⟩) := by
    show RndI _ _ _ _ _ _
    rw [← HW2.out]; exact RndI.new _ HV1.out
  go_wp2_with fail
  rw [HW2.out]
  obtain ⟨hb, HHB⟩ : ∃ z, Hid (w1.heap.size = z) := ⟨_, rfl⟩
  obtain ⟨gb, HGB⟩ : ∃ z, Hid (w1.heap.size + 1 = z) := ⟨_, rfl⟩
  go_loopw [5] (fun i wr => ∃ (k : Nat) (H G : Hd), k ≤ n ∧ i = .int .i64 k ∧ Hid (RndI w wr w1.heap.size (w1.heap.size + 1) H G)) (fun i _ => n - (RowKit.intOf i).toNat)
  case atStart => exact ⟨0, _, _, Nat.zero_le _, rfl, HR0⟩
  case round =>
    clear HR0
    obtain ⟨k, H, G, hk, rfl, HR⟩ := hrel
    by_cases hlt : k < n
    · have hlt' : (k : Int) < n := by omega
      obtain ⟨b, off, rfl, hbl, hcs⟩ := HOP.out.mem (by omega)
      have hck := hcs k hlt
      have HIX := Lib.hid (HOP.out.x k hlt)
      have HIY := Lib.hid (HOP.out.y k hlt)
      obtain ⟨o, HOK⟩ : ∃ o, Hid (os k = o) := ⟨_, rfl⟩
      rw [HOK.out] at hck HIX HIY
      obtain ⟨kk, op, nn, X, Y⟩ := o
      obtain ⟨sa, sn, sc, aa, an, ac, s, a⟩ := X
      obtain ⟨ta, tn, tc, ba, bn, bc, t, b'⟩ := Y
      have HSC : Hid (∀ wx, Below w.heap.size w wx → ∀ j v, (Opv.cells ⟨kk, op, nn, ⟨sa, sn, sc, aa, an, ac, s, a⟩, ⟨ta, tn, tc, ba, bn, bc, t, b'⟩⟩)[j]? = some v → wx.cell? ⟨b, off + (k * 7 + j), none⟩ = some v) := fun wx hx j v hj =>
        (hx.cell (p := ⟨b, off + (k * 7 + j), none⟩) hbl).trans (hck j v hj)
      have d0 : wr.cell? ⟨b, off + k * 7, none⟩ = some (.int .i64 kk) := by exact HSC.out wr HR.out.below 0 _ rfl
      have d1 : wr.cell? ⟨b, off + k * 7 + 1, none⟩ = some (.int .i64 op) := by rw [Nat.add_assoc]; exact HSC.out wr HR.out.below 1 _ rfl
      have d2 : wr.cell? ⟨b, off + k * 7 + 2, none⟩ = some (.int .i64 nn) := by rw [Nat.add_assoc]; exact HSC.out wr HR.out.below 2 _ rfl
      have d3 : wr.cell? ⟨b, off + k * 7 + 3, none⟩ = some (.slice sa sn sc) := by rw [Nat.add_assoc]; exact HSC.out wr HR.out.below 3 _ rfl
      have d4 : wr.cell? ⟨b, off + k * 7 + 4, none⟩ = some (.slice aa an ac) := by rw [Nat.add_assoc]; exact HSC.out wr HR.out.below 4 _ rfl
      have d5 : wr.cell? ⟨b, off + k * 7 + 5, none⟩ = some (.slice ta tn tc) := by rw [Nat.add_assoc]; exact HSC.out wr HR.out.below 5 _ rfl
      have d6 : wr.cell? ⟨b, off + k * 7 + 6, none⟩ = some (.slice ba bn bc) := by rw [Nat.add_assoc]; exact HSC.out wr HR.out.below 6 _ rfl
      clear hcs hck
      obtain ⟨W3, HW3⟩ : ∃ z, Hid (wr.alloc (.cells #[.int .i64 kk, .int .i64 op, .int .i64 nn, .slice sa sn sc, .slice aa an ac, .slice ta tn tc, .slice ba bn bc] 75) = z) := ⟨_, rfl⟩
      have HC3 : Hid (Below wr.heap.size wr W3) := by show Below _ _ _; rw [← HW3.out]; exact abal _ _
      have BO : Hid (BoxN W3 wr.heap.size #[.int .i64 kk, .int .i64 op, .int .i64 nn, .slice sa sn sc, .slice aa an ac, .slice ta tn tc, .slice ba bn bc]) := by show BoxN _ _ _; rw [← HW3.out]; exact BoxN.new _ _ _
      have hq1 : (kk == 1) = decide (kk = 1) := rfl
      clear hq1
      by_cases hk1 : kk = 1
      · subst hk1
        have C1 := Lib.hid (fun w1 => has_any op nn w1)
        have C2 := Lib.hid (fun w1 => r5has_any op nn w1)
        obtain ⟨hv, HHV⟩ : ∃ z, Hid (hasV op nn = z) := ⟨_, rfl⟩
        rw [HHV.out] at C1 C2
        have hbb : (hv != hv) = false := by simp
        go_wp2_with fail
        go_quiet (first | (with_reducible exact Ret.quiet (C1.out _)) | (with_reducible exact Ret.quiet (C2.out _)))
        have HRZ : Hid (RndI w ((wr.alloc (.cells #[.int .i64 1, .int .i64 op, .int .i64 nn, .slice sa sn sc, .slice aa an ac, .slice ta tn tc, .slice ba bn bc] 75)).drewN nq) w1.heap.size (w1.heap.size + 1) H G) := HR.out.via (abvia (abal _ _) (adrew _ _))
        clear d0 d1 d2 d3 d4 d5 d6
        go_wp2
        go_roundw
        case rel => exact ⟨k + 1, H, G, by omega, by go_num, HRZ⟩
        case measure => simp [RowKit.intOf]; omega
      have k1 : (kk == 1) = false := by simpa using hk1
      by_cases hk23 : kk ≠ 2 ∧ kk ≠ 3
      · have k2 : (kk != 2) = true := by simpa using hk23.1
        have k3 : (kk != 3) = true := by simpa using hk23.2
        have HRZ : Hid (RndI w (wr.alloc (.cells #[.int .i64 kk, .int .i64 op, .int .i64 nn, .slice sa sn sc, .slice aa an ac, .slice ta tn tc, .slice ba bn bc] 75)) w1.heap.size (w1.heap.size + 1) H G) := HR.out.via (abal _ _)
        clear hk23 hk1
        go_wp2
        go_roundw
        case rel => exact ⟨k + 1, H, G, by omega, by go_num, HRZ⟩
        case measure => simp [RowKit.intOf]; omega
      have hk23' : kk = 2 ∨ kk = 3 := by omega
      have CM := Lib.hid (meant5_any (HIX.out.below (HR.out.below.trans (HC3.out.mono HR.out.below.size)) (Nat.le_refl _)) (HIY.out.below (HR.out.below.trans (HC3.out.mono HR.out.below.size)) (Nat.le_refl _)) kk op nn)
      simp only [Opv.cells] at CM
      obtain ⟨fs, HFS⟩ : ∃ z, Hid ((if kk = 2 then amoS op t b' else adyS op s a t b') = z) := ⟨_, rfl⟩
      obtain ⟨fa, HFA⟩ : ∃ z, Hid ((if kk = 2 then amoA op t b' else adyA op s a t b') = z) := ⟨_, rfl⟩
      obtain ⟨fe, HFE⟩ : ∃ z, Hid ((if kk = 2 then amoE op t b' else adyE op s a t b') = z) := ⟨_, rfl⟩
      rw [HFS.out, HFA.out, HFE.out] at CM
      have kcase : ((kk != 2) = false) ∨ ((kk != 2) = true ∧ (kk != 3) = false) := by
        rcases hk23' with e | e <;> subst e <;> simp
      clear hk1 hk23 hk23'
      rcases kcase with k2 | ⟨k2, k3⟩
      · go_wp2_with fail
        rw [HW3.out]
        refine CM.out.mono ?_; rintro e w3 ⟨⟨saM, snM, scM, aaM, anM, acM, sM, aM⟩, rfl, hIM, hsM, haM, hOM, hbq⟩
        simp only at hsM haM
        have hsM' := hsM.symm
        have haM' := haM.symm
        subst hsM' haM'
        simp only [Ar.v]
        obtain ⟨W4, HW4⟩ : ∃ z, Hid (w3.alloc (.cells #[.slice saM snM scM, .slice aaM anM acM] 55) = z) := ⟨_, rfl⟩
        have hal : Below w3.heap.size w3 W4 := by rw [← HW4.out]; exact abal _ _
        have XM : Hid (BoxA W4 w3.heap.size (.slice saM snM scM) (.slice aaM anM acM)) := by show BoxA _ _ _ _; rw [← HW4.out]; exact BoxA.new _ _ _ _
        have HC4 : Hid (Below W3.heap.size W3 W4) := abvia hbq hal
        have hM4 := hOM.out hIM (F := fun _ => False) (.of hal) (fun _ _ _ h => h)
        have HM4 := Lib.hid hM4
        have S34 : Hid (W3.heap.size ≤ w3.heap.size ∧ w3.heap.size < W4.heap.size ∧ wr.heap.size < W3.heap.size) := by
          refine ⟨hbq.size, ?_, ?_⟩
          · rw [← HW4.out]; simp
          · rw [← HW3.out]; simp
        have BO4 : Hid (BoxN W4 wr.heap.size #[.int .i64 kk, .int .i64 op, .int .i64 nn, .slice sa sn sc, .slice aa an ac, .slice ta tn tc, .slice ba bn bc]) := BO.out.out (F := fun _ => False) (.of HC4.out) (fun h => h)
        have HR4 := Lib.hid (HR.out.via (abvia HC3.out HC4.out))
        have CL := Lib.hid (lay_any HIX.out HR4.out.below HR4.out.h)
        simp only [Ar.v] at CL
        rw [HR4.out.eh] at CL
        clear hIM hOM hbq hal hM4 d0 d1 d2 d3 d4 d5 d6
        have g3 : (w3.alloc (.cells #[.slice saM snM scM, .slice aaM anM acM] 55)).cell? ⟨wr.heap.size, 3, none⟩ = some (.slice sa sn sc) := by rw [HW4.out]; exact BO4.out.c 3 _ rfl
        have g4 : (w3.alloc (.cells #[.slice saM snM scM, .slice aaM anM acM] 55)).cell? ⟨wr.heap.size, 4, none⟩ = some (.slice aa an ac) := by rw [HW4.out]; exact BO4.out.c 4 _ rfl
        go_wp2_with fail
        rw [HW4.out]
        refine CL.out.mono ?_; rintro e w5 ⟨⟨s1a, s1n, s1c, a1a, a1n, a1c, s1', a1'⟩, rfl, hI5, hs5, ha5, hO5, H', hH1, hH2, hH3, hH4, hH5, hH6⟩
        simp only at hs5 ha5 hH4 hH5
        have hs5' := hs5.symm
        have ha5' := ha5.symm
        subst hs5' ha5'
        simp only [Ar.v]
        have hft := fun j (hj : H.foot j) => HR.out.h.foot_lt hj
        have gft := fun j (hj : G.foot j) => HR.out.g.foot_lt hj
        have HFT := Lib.hid hft
        have GFT := Lib.hid gft
        obtain ⟨sA1, sA2, sA3⟩ := S34.out
        have BO5 : Hid (BoxN w5 wr.heap.size #[.int .i64 kk, .int .i64 op, .int .i64 nn, .slice sa sn sc, .slice aa an ac, .slice ta tn tc, .slice ba bn bc]) := BO4.out.out hO5 (fun h => by have := (hft _ h).2; omega)
        obtain ⟨W5, HW5⟩ : ∃ z, Hid ((w5.setCell ⟨wr.heap.size, 3, none⟩ (.slice s1a s1n s1c)).setCell ⟨wr.heap.size, 4, none⟩ (.slice a1a a1n a1c) = z) := ⟨_, rfl⟩
        have ho5 : Out (fun q => q = wr.heap.size) w5 W5 := by rw [← HW5.out]; exact two_out _ _ _ _ _ _
        have BO5' : Hid (BoxN W5 wr.heap.size #[.int .i64 kk, .int .i64 op, .int .i64 nn, .slice s1a s1n s1c, .slice a1a a1n a1c, .slice ta tn tc, .slice ba bn bc]) := by show BoxN _ _ _; rw [← HW5.out]; exact BO5.out.set34 _ _
        have hw4 := HR4.out.below
        have hww := HR.out.below.size
        have hb5 : Below w.heap.size w W5 := (hw4.trans (hO5.toBelow (fun j hj => (hft j hj).1) hw4.size)).trans (ho5.toBelow (fun j hj => by omega) (Nat.le_trans hw4.size hO5.size))
        have hG5 : G.Is w.heap.size W5 := (HR4.out.g.out hO5 (fun j hj h => HR.out.dis j h hj)).out ho5 (fun j hj e => by have := (gft j hj).2; omega)
        have HB5 := Lib.hid hb5
        have CL2 := Lib.hid (lay_any HIY.out hb5 hG5)
        simp only [Ar.v] at CL2
        rw [HR.out.eg] at CL2
        have HO5 := Lib.hid hO5
        have HO5b := Lib.hid ho5
        have HI5 := Lib.hid hI5
        have J1 := Lib.hid hH1
        have J2 := Lib.hid hH2
        have J3 := Lib.hid hH3
        have J4 := Lib.hid hH4
        have J5 := Lib.hid hH5
        have J6 := Lib.hid hH6
        have p3 := BO5.out.c 3 _ rfl
        have p4 := BO5.out.c 4 _ rfl
        have p5 := BO5.out.f 3
        have p6 := BO5.out.f 4
        have p7 := BO5.out.c 5 _ rfl
        have p8 := BO5.out.c 6 _ rfl
        clear hI5 hO5 hH1 hH2 hH3 hH4 hH5 hH6 hft gft ho5 hw4 hww hb5 hG5 g3 g4 sA1 sA2 sA3
        go_wp2_with fail
        rw [HW5.out]
        refine CL2.out.mono ?_; rintro e w6 ⟨⟨s2a, s2n, s2c, a2a, a2n, a2c, s2', a2'⟩, rfl, hI6, hs6, ha6, hO6, G', hG1, hG2, hG3, hG4, hG5, hG6⟩
        simp only at hs6 ha6 hG4 hG5
        have hs6' := hs6.symm
        have ha6' := ha6.symm
        subst hs6' ha6'
        simp only [Ar.v]
        have hft := HFT.out
        have gft := GFT.out
        obtain ⟨sA1, sA2, sA3⟩ := S34.out
        have s5 := HO5.out.size
        have s5b := HO5b.out.size
        have BO6 : Hid (BoxN w6 wr.heap.size #[.int .i64 kk, .int .i64 op, .int .i64 nn, .slice s1a s1n s1c, .slice a1a a1n a1c, .slice ta tn tc, .slice ba bn bc]) := BO5'.out.out hO6 (fun h => by have := (gft _ h).2; omega)
        obtain ⟨W6, HW6⟩ : ∃ z, Hid ((w6.setCell ⟨wr.heap.size, 5, none⟩ (.slice s2a s2n s2c)).setCell ⟨wr.heap.size, 6, none⟩ (.slice a2a a2n a2c) = z) := ⟨_, rfl⟩
        have ho6 : Out (fun q => q = wr.heap.size) w6 W6 := by rw [← HW6.out]; exact two_out _ _ _ _ _ _
        have hww := HR.out.below.size
        have hb6 : Below w.heap.size w W6 := (HB5.out.trans (hO6.toBelow (fun j hj => (gft j hj).1) HB5.out.size)).trans (ho6.toBelow (fun j hj => by omega) (Nat.le_trans HB5.out.size hO6.size))
        have hf' : ∀ j, H'.foot j → (j < wr.heap.size ∨ W4.heap.size ≤ j) ∧ j < w5.heap.size ∧ w.heap.size ≤ j ∧ ¬ G.foot j ∧ ¬ j = wr.heap.size := by
          intro j hj
          have h1 := J3.out.foot_lt hj
          rcases J2.out j hj with h | h
          · have h2 := hft j h
            exact ⟨.inl h2.2, h1.2, h1.1, HR.out.dis j h, by omega⟩
          · exact ⟨.inr h, h1.2, h1.1, fun hg => by have := (gft j hg).2; omega, by omega⟩
        have gf' : ∀ j, G'.foot j → (j < wr.heap.size ∨ W5.heap.size ≤ j) ∧ j < w6.heap.size ∧ w.heap.size ≤ j ∧ ¬ H'.foot j ∧ ¬ j = wr.heap.size := by
          intro j hj
          have h1 := hG3.foot_lt hj
          rcases hG2 j hj with h | h
          · have h2 := gft j h
            exact ⟨.inl h2.2, h1.2, h1.1, fun hh => (hf' j hh).2.2.2.1 h, by omega⟩
          · exact ⟨.inr h, h1.2, h1.1, fun hh => by have := (hf' j hh).2.1; omega, by omega⟩
        have hH6 : H'.Is w.heap.size W6 := ((J3.out.out HO5b.out (fun j hj e => (hf' j hj).2.2.2.2 e)).out hO6 (fun j hj h => (hf' j hj).2.2.2.1 h)).out ho6 (fun j hj e => (hf' j hj).2.2.2.2 e)
        have hG6' : G'.Is w.heap.size W6 := hG3.out ho6 (fun j hj e => (gf' j hj).2.2.2.2 e)
        have hF1 : Out (fun q => q = wr.heap.size ∨ G.foot q) w5 W6 := ((HO5b.out.weak (G := fun q => q = wr.heap.size ∨ G.foot q) (fun _ _ h => .inl h)).trans hO6 (fun _ _ h => .inr h)).trans ho6 (fun _ _ h => .inl h)
        have hB1 : Ar.Is ⟨s1a, s1n, s1c, a1a, a1n, a1c, s, a⟩ W6 := J6.out _ _ hF1 (fun j hj h => by
          rcases h with h | h
          · exact (hf' j hj).2.2.2.2 h
          · exact (hf' j hj).2.2.2.1 h) (fun j hj h => by
          rcases h with h | h
          · omega
          · have := (gft j h).1; omega)
        have hB2 : Ar.Is ⟨s2a, s2n, s2c, a2a, a2n, a2c, t, b'⟩ W6 := hG6 _ _ ho6 (fun j hj h => (gf' j hj).2.2.2.2 h) (fun j hj h => by omega)
        have CA := Lib.hid (asked5_any hB1 hB2 kk op nn)
        simp only [Opv.cells] at CA
        rw [HFS.out, HFA.out, HFE.out] at CA
        have HB6 := Lib.hid hb6
        have HHF := Lib.hid hf'
        have HGF := Lib.hid gf'
        have HH6 := Lib.hid hH6
        have HG6 := Lib.hid hG6'
        have K1 := Lib.hid hG1
        have K4 := Lib.hid hG4
        have K5 := Lib.hid hG5
        have S66 : Hid (w5.heap.size ≤ W5.heap.size ∧ W5.heap.size ≤ w6.heap.size ∧ w6.heap.size ≤ W6.heap.size ∧ W4.heap.size ≤ w5.heap.size) := ⟨s5b, hO6.size, ho6.size, s5⟩
        -- what was told by the document, at W6
        have hM5 := HM4.out.1.out HM4.out.2 HO5.out (fun j h1 h2 h => by have := (hft j h).2; omega)
        have hM6 := hM5.1.out hM5.2 hF1 (fun j h1 h2 h => by
          rcases h with h | h
          · omega
          · have := (gft j h).2; omega)
        have HM6 : Hid (Ar.Own ⟨saM, snM, scM, aaM, anM, acM, fs, fa⟩ W6 W3.heap.size ∧ Ar.Is ⟨saM, snM, scM, aaM, anM, acM, fs, fa⟩ W6) := hM6
        have hXM : BoxA W6 w3.heap.size (.slice saM snM scM) (.slice aaM anM acM) := (HO5.out.boxA XM.out (fun h => by have := (hft _ h).2; omega)) |> fun h => hF1.boxA h (fun h => by
          rcases h with h | h
          · omega
          · have := (gft _ h).2; omega)
        have HXM := Lib.hid hXM
        have HOM6 : Hid (∀ j, W3.heap.size ≤ j → j < W6.heap.size → (j < W4.heap.size → ¬ H'.foot j ∧ ¬ G'.foot j)) := fun j h1 h2 h3 => ⟨fun h => by
          rcases (hf' j h).1 with h | h <;> omega, fun h => by
          rcases (gf' j h).1 with h | h <;> omega⟩
        have hOwnM := HM4.out.1
        have hlt4 : ∀ g, (Value.slice saM snM scM).ownBlock = some g → g < W4.heap.size := fun g hg => (own_block hOwnM.shp hg).2
        have hlt5 : ∀ g, (Value.slice aaM anM acM).ownBlock = some g → g < W4.heap.size := fun g hg => (own_block hOwnM.ats hg).2
        have HL45 := Lib.hid (And.intro hlt4 hlt5)
        have r0 := BO6.out.c 0 _ rfl
        have r1 := BO6.out.c 1 _ rfl
        have r2 := BO6.out.c 2 _ rfl
        have r3 := BO6.out.c 3 _ rfl
        have r4 := BO6.out.c 4 _ rfl
        have r5 := BO6.out.c 5 _ rfl
        have r6 := BO6.out.c 6 _ rfl
        have r7 := BO6.out.f 5
        have r8 := BO6.out.f 6
        clear hI6 hO6 hG1 hG2 hG3 hG4 hG5 hG6 hft gft ho6 hww hb6 hf' gf' hH6 hG6' hF1 hB1 hB2 s5 s5b sA1 sA2 sA3 hM5 hM6 hXM hOwnM hlt4 hlt5 p3 p4 p5 p6 p7 p8
        go_wp2_with fail
        rw [HW6.out]
        refine CA.out.mono ?_; rintro e w7 ⟨⟨saA, snA, scA, aaA, anA, acA, sA, aA⟩, rfl, hIA, hsA, haA, hOA, hbq⟩
        simp only at hsA haA
        have hsA' := hsA.symm
        have haA' := haA.symm
        subst hsA' haA'
        simp only [Ar.v]
        clear r0 r1 r2 r3 r4 r5 r6 r7 r8
        obtain ⟨W7, HW7⟩ : ∃ z, Hid (w7.alloc (.cells #[.slice saA snA scA, .slice aaA anA acA] 55) = z) := ⟨_, rfl⟩
        have hal : Below w7.heap.size w7 W7 := by rw [← HW7.out]; exact abal _ _
        have hc7 : Below W6.heap.size W6 W7 := abvia hbq hal
        have XA : Hid (BoxA W7 w7.heap.size (.slice saA snA scA) (.slice aaA anA acA)) := by show BoxA _ _ _ _; rw [← HW7.out]; exact BoxA.new _ _ _ _
        have HA7 := Lib.hid (hOA.out hIA (F := fun _ => False) (.of hal) (fun _ _ _ h => h))
        have HM7 := Lib.hid (HM6.out.1.out HM6.out.2 (F := fun _ => False) (.of hc7) (fun _ _ _ h => h))
        have HX7 := Lib.hid (HXM.out.via hc7)
        have HH7 := Lib.hid (HH6.out.via hc7)
        have HG7 := Lib.hid (HG6.out.via hc7)
        have HB7 : Hid (Below w.heap.size w W7) := HB6.out.trans (hc7.mono HB6.out.size)
        have S77 : Hid (W6.heap.size ≤ w7.heap.size) := hbq.size
        have CK := Lib.hid (kept_any HIX.out HB7.out HH7.out J4.out J5.out)
        simp only [Ar.v] at CK
        rw [J1.out, HR.out.eh] at CK
        have g3 : (w7.alloc (.cells #[.slice saA snA scA, .slice aaA anA acA] 55)).cell? ⟨b, off + k * 7 + 3, none⟩ = some (.slice sa sn sc) := by rw [HW7.out, Nat.add_assoc]; exact HSC.out W7 HB7.out 3 _ rfl
        have g4 : (w7.alloc (.cells #[.slice saA snA scA, .slice aaA anA acA] 55)).cell? ⟨b, off + k * 7 + 4, none⟩ = some (.slice aa an ac) := by rw [HW7.out, Nat.add_assoc]; exact HSC.out W7 HB7.out 4 _ rfl
        clear hIA hOA hbq hal hc7
        go_wp2_with fail
        rw [HW7.out]
        refine CK.out.mono ?_; rintro e w8 ⟨rfl, hO8, H'', hP1, hP2, hP3⟩
        have hHF := HHF.out
        have hGF := HGF.out
        obtain ⟨u1, u2, u3, u4⟩ := S66.out
        have u5 := S77.out
        have hb8 : Below w.heap.size w w8 := HB7.out.trans (hO8.toBelow (fun j hj => (hHF j hj).2.2.1) HB7.out.size)
        have hG8 : G'.Is w.heap.size w8 := HG7.out.out hO8 (fun j hj h => (hGF j hj).2.2.2.1 h)
        have HB8 := Lib.hid hb8
        have CK2 := Lib.hid (kept_any HIY.out hb8 hG8 K4.out K5.out)
        simp only [Ar.v] at CK2
        rw [K1.out, HR.out.eg] at CK2
        have HA8 := Lib.hid (HA7.out.1.out HA7.out.2 hO8 (fun j h1 h2 h => by have := (hHF j h).2.1; omega))
        have HX8 := Lib.hid (hO8.boxA HX7.out (fun h => by
          have h1 := S34.out
          rcases (hHF _ h).1 with h | h <;> omega))
        have HXA8 := Lib.hid (hO8.boxA XA.out (fun h => by have := (hHF _ h).2.1; omega))
        have o1 := hO8.own HM7.out.1.shp (fun g hg h => by
          have h1 := HL45.out.1 g hg
          have h2 := (own_block HM7.out.1.shp hg).1
          have h3 := S34.out
          rcases (hHF _ h).1 with h | h <;> omega)
        have o2 := hO8.own HM7.out.1.ats (fun g hg h => by
          have h1 := HL45.out.2 g hg
          have h2 := (own_block HM7.out.1.ats hg).1
          have h3 := S34.out
          rcases (hHF _ h).1 with h | h <;> omega)
        have O1 := Lib.hid o1
        have O2 := Lib.hid o2
        have Q1 := Lib.hid hP1
        have Q2 := Lib.hid hP2
        have Q3 := Lib.hid hP3
        have h5 : w8.cell? ⟨b, off + k * 7 + 5, none⟩ = some (.slice ta tn tc) := by rw [Nat.add_assoc]; exact HSC.out w8 hb8 5 _ rfl
        have h6 : w8.cell? ⟨b, off + k * 7 + 6, none⟩ = some (.slice ba bn bc) := by rw [Nat.add_assoc]; exact HSC.out w8 hb8 6 _ rfl
        clear hO8 hP1 hP2 hP3 hHF hGF hb8 hG8 o1 o2 g3 g4 u1 u2 u3 u4 u5
        go_wp2_with fail
        refine CK2.out.mono ?_; rintro e w9 ⟨rfl, hO9, G'', hT1, hT2, hT3⟩
        have hGF := HGF.out
        have hHF := HHF.out
        obtain ⟨u1, u2, u3, u4⟩ := S66.out
        have u5 := S77.out
        have hb9 : Below w.heap.size w w9 := HB8.out.trans (hO9.toBelow (fun j hj => (hGF j hj).2.2.1) HB8.out.size)
        have hA9 := HA8.out.1.out HA8.out.2 hO9 (fun j h1 h2 h => by have := (hGF j h).2.1; omega)
        have v1 := hO9.own O1.out (fun g hg h => by
          have h1 := HL45.out.1 g hg
          have h2 := (own_block O1.out hg).1
          have h3 := S34.out
          rcases (hGF _ h).1 with h | h <;> omega)
        have v2 := hO9.own O2.out (fun g hg h => by
          have h1 := HL45.out.2 g hg
          have h2 := (own_block O2.out hg).1
          have h3 := S34.out
          rcases (hGF _ h).1 with h | h <;> omega)
        have hMI : Ar.Is ⟨saM, snM, scM, aaM, anM, acM, fs, fa⟩ w9 := ⟨ls_of_own v1 HM7.out.2.shp.big HM7.out.2.shp.rng, ls_of_own v2 HM7.out.2.ats.big HM7.out.2.ats.rng⟩
        obtain ⟨m0, m1, -, -, -⟩ := hO9.boxA HX8.out (fun h => by
          have h1 := S34.out
          rcases (hGF _ h).1 with h | h <;> omega)
        obtain ⟨l0, l1, -, -, -⟩ := hO9.boxA HXA8.out (fun h => by have := (hGF _ h).2.1; omega)
        have CE := Lib.hid (eq_any (w := w9) (A := ⟨saA, snA, scA, aaA, anA, acA, fs, fa⟩) hA9.2 hMI)
        simp only [Ar.v, and_self, decide_true] at CE
        have HRY : Hid (RndI w w9 w1.heap.size (w1.heap.size + 1) H'' G'') := by
          refine ⟨Q3.out.out hO9 (fun j hj h => (hGF j h).2.2.2.1 (Q2.out j hj)), hT3, by rw [Q1.out, J1.out, HR.out.eh], by rw [hT1, K1.out, HR.out.eg], fun j hj h => (hGF j (hT2 j h)).2.2.2.1 (Q2.out j hj), hb9⟩
        have hee : (fe != fe) = false := by simp
        clear hO9 hT1 hT2 hT3 hGF hHF hb9 hA9 v1 v2 hMI h5 h6 u1 u2 u3 u4 u5
        go_wp2_with fail
        refine CE.out.mono ?_; rintro e w10 ⟨rfl, hbq⟩
        have HRZ := Lib.hid (HRY.out.via hbq)
        clear hbq m0 m1 l0 l1
        go_wp2
        go_roundw
        case rel => exact ⟨k + 1, H'', G'', by omega, by go_num, HRZ⟩
        case measure => simp [RowKit.intOf]; omega
      · go_wp2_with fail
        rw [HW3.out]
        refine CM.out.mono ?_; rintro e w3 ⟨⟨saM, snM, scM, aaM, anM, acM, sM, aM⟩, rfl, hIM, hsM, haM, hOM, hbq⟩
        simp only at hsM haM
        have hsM' := hsM.symm
        have haM' := haM.symm
        subst hsM' haM'
        simp only [Ar.v]
        obtain ⟨W4, HW4⟩ : ∃ z, Hid (w3.alloc (.cells #[.slice saM snM scM, .slice aaM anM acM] 55) = z) := ⟨_, rfl⟩
        have hal : Below w3.heap.size w3 W4 := by rw [← HW4.out]; exact abal _ _
        have XM : Hid (BoxA W4 w3.heap.size (.slice saM snM scM) (.slice aaM anM acM)) := by show BoxA _ _ _ _; rw [← HW4.out]; exact BoxA.new _ _ _ _
        have HC4 : Hid (Below W3.heap.size W3 W4) := abvia hbq hal
        have hM4 := hOM.out hIM (F := fun _ => False) (.of hal) (fun _ _ _ h => h)
        have HM4 := Lib.hid hM4
        have S34 : Hid (W3.heap.size ≤ w3.heap.size ∧ w3.heap.size < W4.heap.size ∧ wr.heap.size < W3.heap.size) := by
          refine ⟨hbq.size, ?_, ?_⟩
          · rw [← HW4.out]; simp
          · rw [← HW3.out]; simp
        have BO4 : Hid (BoxN W4 wr.heap.size #[.int .i64 kk, .int .i64 op, .int .i64 nn, .slice sa sn sc, .slice aa an ac, .slice ta tn tc, .slice ba bn bc]) := BO.out.out (F := fun _ => False) (.of HC4.out) (fun h => h)
        have HR4 := Lib.hid (HR.out.via (abvia HC3.out HC4.out))
        have CL := Lib.hid (lay_any HIX.out HR4.out.below HR4.out.h)
        simp only [Ar.v] at CL
        rw [HR4.out.eh] at CL
        clear hIM hOM hbq hal hM4 d0 d1 d2 d3 d4 d5 d6
        have g3 : (w3.alloc (.cells #[.slice saM snM scM, .slice aaM anM acM] 55)).cell? ⟨wr.heap.size, 3, none⟩ = some (.slice sa sn sc) := by rw [HW4.out]; exact BO4.out.c 3 _ rfl
        have g4 : (w3.alloc (.cells #[.slice saM snM scM, .slice aaM anM acM] 55)).cell? ⟨wr.heap.size, 4, none⟩ = some (.slice aa an ac) := by rw [HW4.out]; exact BO4.out.c 4 _ rfl
        go_wp2_with fail
        rw [HW4.out]
        refine CL.out.mono ?_; rintro e w5 ⟨⟨s1a, s1n, s1c, a1a, a1n, a1c, s1', a1'⟩, rfl, hI5, hs5, ha5, hO5, H', hH1, hH2, hH3, hH4, hH5, hH6⟩
        simp only at hs5 ha5 hH4 hH5
        have hs5' := hs5.symm
        have ha5' := ha5.symm
        subst hs5' ha5'
        simp only [Ar.v]
        have hft := fun j (hj : H.foot j) => HR.out.h.foot_lt hj
        have gft := fun j (hj : G.foot j) => HR.out.g.foot_lt hj
        have HFT := Lib.hid hft
        have GFT := Lib.hid gft
        obtain ⟨sA1, sA2, sA3⟩ := S34.out
        have BO5 : Hid (BoxN w5 wr.heap.size #[.int .i64 kk, .int .i64 op, .int .i64 nn, .slice sa sn sc, .slice aa an ac, .slice ta tn tc, .slice ba bn bc]) := BO4.out.out hO5 (fun h => by have := (hft _ h).2; omega)
        obtain ⟨W5, HW5⟩ : ∃ z, Hid ((w5.setCell ⟨wr.heap.size, 3, none⟩ (.slice s1a s1n s1c)).setCell ⟨wr.heap.size, 4, none⟩ (.slice a1a a1n a1c) = z) := ⟨_, rfl⟩
        have ho5 : Out (fun q => q = wr.heap.size) w5 W5 := by rw [← HW5.out]; exact two_out _ _ _ _ _ _
        have BO5' : Hid (BoxN W5 wr.heap.size #[.int .i64 kk, .int .i64 op, .int .i64 nn, .slice s1a s1n s1c, .slice a1a a1n a1c, .slice ta tn tc, .slice ba bn bc]) := by show BoxN _ _ _; rw [← HW5.out]; exact BO5.out.set34 _ _
        have hw4 := HR4.out.below
        have hww := HR.out.below.size
        have hb5 : Below w.heap.size w W5 := (hw4.trans (hO5.toBelow (fun j hj => (hft j hj).1) hw4.size)).trans (ho5.toBelow (fun j hj => by omega) (Nat.le_trans hw4.size hO5.size))
        have hG5 : G.Is w.heap.size W5 := (HR4.out.g.out hO5 (fun j hj h => HR.out.dis j h hj)).out ho5 (fun j hj e => by have := (gft j hj).2; omega)
        have HB5 := Lib.hid hb5
        have CL2 := Lib.hid (lay_any HIY.out hb5 hG5)
        simp only [Ar.v] at CL2
        rw [HR.out.eg] at CL2
        have HO5 := Lib.hid hO5
        have HO5b := Lib.hid ho5
        have HI5 := Lib.hid hI5
        have J1 := Lib.hid hH1
        have J2 := Lib.hid hH2
        have J3 := Lib.hid hH3
        have J4 := Lib.hid hH4
        have J5 := Lib.hid hH5
        have J6 := Lib.hid hH6
        have p3 := BO5.out.c 3 _ rfl
        have p4 := BO5.out.c 4 _ rfl
        have p5 := BO5.out.f 3
        have p6 := BO5.out.f 4
        have p7 := BO5.out.c 5 _ rfl
        have p8 := BO5.out.c 6 _ rfl
        clear hI5 hO5 hH1 hH2 hH3 hH4 hH5 hH6 hft gft ho5 hw4 hww hb5 hG5 g3 g4 sA1 sA2 sA3
        go_wp2_with fail
        rw [HW5.out]
        refine CL2.out.mono ?_; rintro e w6 ⟨⟨s2a, s2n, s2c, a2a, a2n, a2c, s2', a2'⟩, rfl, hI6, hs6, ha6, hO6, G', hG1, hG2, hG3, hG4, hG5, hG6⟩
        simp only at hs6 ha6 hG4 hG5
        have hs6' := hs6.symm
        have ha6' := ha6.symm
        subst hs6' ha6'
        simp only [Ar.v]
        have hft := HFT.out
        have gft := GFT.out
        obtain ⟨sA1, sA2, sA3⟩ := S34.out
        have s5 := HO5.out.size
        have s5b := HO5b.out.size
        have BO6 : Hid (BoxN w6 wr.heap.size #[.int .i64 kk, .int .i64 op, .int .i64 nn, .slice s1a s1n s1c, .slice a1a a1n a1c, .slice ta tn tc, .slice ba bn bc]) := BO5'.out.out hO6 (fun h => by have := (gft _ h).2; omega)
        obtain ⟨W6, HW6⟩ : ∃ z, Hid ((w6.setCell ⟨wr.heap.size, 5, none⟩ (.slice s2a s2n s2c)).setCell ⟨wr.heap.size, 6, none⟩ (.slice a2a a2n a2c) = z) := ⟨_, rfl⟩
        have ho6 : Out (fun q => q = wr.heap.size) w6 W6 := by rw [← HW6.out]; exact two_out _ _ _ _ _ _
        have hww := HR.out.below.size
        have hb6 : Below w.heap.size w W6 := (HB5.out.trans (hO6.toBelow (fun j hj => (gft j hj).1) HB5.out.size)).trans (ho6.toBelow (fun j hj => by omega) (Nat.le_trans HB5.out.size hO6.size))
        have hf' : ∀ j, H'.foot j → (j < wr.heap.size ∨ W4.heap.size ≤ j) ∧ j < w5.heap.size ∧ w.heap.size ≤ j ∧ ¬ G.foot j ∧ ¬ j = wr.heap.size := by
          intro j hj
          have h1 := J3.out.foot_lt hj
          rcases J2.out j hj with h | h
          · have h2 := hft j h
            exact ⟨.inl h2.2, h1.2, h1.1, HR.out.dis j h, by omega⟩
          · exact ⟨.inr h, h1.2, h1.1, fun hg => by have := (gft j hg).2; omega, by omega⟩
        have gf' : ∀ j, G'.foot j → (j < wr.heap.size ∨ W5.heap.size ≤ j) ∧ j < w6.heap.size ∧ w.heap.size ≤ j ∧ ¬ H'.foot j ∧ ¬ j = wr.heap.size := by
          intro j hj
          have h1 := hG3.foot_lt hj
          rcases hG2 j hj with h | h
          · have h2 := gft j h
            exact ⟨.inl h2.2, h1.2, h1.1, fun hh => (hf' j hh).2.2.2.1 h, by omega⟩
          · exact ⟨.inr h, h1.2, h1.1, fun hh => by have := (hf' j hh).2.1; omega, by omega⟩
        have hH6 : H'.Is w.heap.size W6 := ((J3.out.out HO5b.out (fun j hj e => (hf' j hj).2.2.2.2 e)).out hO6 (fun j hj h => (hf' j hj).2.2.2.1 h)).out ho6 (fun j hj e => (hf' j hj).2.2.2.2 e)
        have hG6' : G'.Is w.heap.size W6 := hG3.out ho6 (fun j hj e => (gf' j hj).2.2.2.2 e)
        have hF1 : Out (fun q => q = wr.heap.size ∨ G.foot q) w5 W6 := ((HO5b.out.weak (G := fun q => q = wr.heap.size ∨ G.foot q) (fun _ _ h => .inl h)).trans hO6 (fun _ _ h => .inr h)).trans ho6 (fun _ _ h => .inl h)
        have hB1 : Ar.Is ⟨s1a, s1n, s1c, a1a, a1n, a1c, s, a⟩ W6 := J6.out _ _ hF1 (fun j hj h => by
          rcases h with h | h
          · exact (hf' j hj).2.2.2.2 h
          · exact (hf' j hj).2.2.2.1 h) (fun j hj h => by
          rcases h with h | h
          · omega
          · have := (gft j h).1; omega)
        have hB2 : Ar.Is ⟨s2a, s2n, s2c, a2a, a2n, a2c, t, b'⟩ W6 := hG6 _ _ ho6 (fun j hj h => (gf' j hj).2.2.2.2 h) (fun j hj h => by omega)
        have CA := Lib.hid (asked5_any hB1 hB2 kk op nn)
        simp only [Opv.cells] at CA
        rw [HFS.out, HFA.out, HFE.out] at CA
        have HB6 := Lib.hid hb6
        have HHF := Lib.hid hf'
        have HGF := Lib.hid gf'
        have HH6 := Lib.hid hH6
        have HG6 := Lib.hid hG6'
        have K1 := Lib.hid hG1
        have K4 := Lib.hid hG4
        have K5 := Lib.hid hG5
        have S66 : Hid (w5.heap.size ≤ W5.heap.size ∧ W5.heap.size ≤ w6.heap.size ∧ w6.heap.size ≤ W6.heap.size ∧ W4.heap.size ≤ w5.heap.size) := ⟨s5b, hO6.size, ho6.size, s5⟩
        -- what was told by the document, at W6
        have hM5 := HM4.out.1.out HM4.out.2 HO5.out (fun j h1 h2 h => by have := (hft j h).2; omega)
        have hM6 := hM5.1.out hM5.2 hF1 (fun j h1 h2 h => by
          rcases h with h | h
          · omega
          · have := (gft j h).2; omega)
        have HM6 : Hid (Ar.Own ⟨saM, snM, scM, aaM, anM, acM, fs, fa⟩ W6 W3.heap.size ∧ Ar.Is ⟨saM, snM, scM, aaM, anM, acM, fs, fa⟩ W6) := hM6
        have hXM : BoxA W6 w3.heap.size (.slice saM snM scM) (.slice aaM anM acM) := (HO5.out.boxA XM.out (fun h => by have := (hft _ h).2; omega)) |> fun h => hF1.boxA h (fun h => by
          rcases h with h | h
          · omega
          · have := (gft _ h).2; omega)
        have HXM := Lib.hid hXM
        have HOM6 : Hid (∀ j, W3.heap.size ≤ j → j < W6.heap.size → (j < W4.heap.size → ¬ H'.foot j ∧ ¬ G'.foot j)) := fun j h1 h2 h3 => ⟨fun h => by
          rcases (hf' j h).1 with h | h <;> omega, fun h => by
          rcases (gf' j h).1 with h | h <;> omega⟩
        have hOwnM := HM4.out.1
        have hlt4 : ∀ g, (Value.slice saM snM scM).ownBlock = some g → g < W4.heap.size := fun g hg => (own_block hOwnM.shp hg).2
        have hlt5 : ∀ g, (Value.slice aaM anM acM).ownBlock = some g → g < W4.heap.size := fun g hg => (own_block hOwnM.ats hg).2
        have HL45 := Lib.hid (And.intro hlt4 hlt5)
        have r0 := BO6.out.c 0 _ rfl
        have r1 := BO6.out.c 1 _ rfl
        have r2 := BO6.out.c 2 _ rfl
        have r3 := BO6.out.c 3 _ rfl
        have r4 := BO6.out.c 4 _ rfl
        have r5 := BO6.out.c 5 _ rfl
        have r6 := BO6.out.c 6 _ rfl
        have r7 := BO6.out.f 5
        have r8 := BO6.out.f 6
        clear hI6 hO6 hG1 hG2 hG3 hG4 hG5 hG6 hft gft ho6 hww hb6 hf' gf' hH6 hG6' hF1 hB1 hB2 s5 s5b sA1 sA2 sA3 hM5 hM6 hXM hOwnM hlt4 hlt5 p3 p4 p5 p6 p7 p8
        go_wp2_with fail
        rw [HW6.out]
        refine CA.out.mono ?_; rintro e w7 ⟨⟨saA, snA, scA, aaA, anA, acA, sA, aA⟩, rfl, hIA, hsA, haA, hOA, hbq⟩
        simp only at hsA haA
        have hsA' := hsA.symm
        have haA' := haA.symm
        subst hsA' haA'
        simp only [Ar.v]
        clear r0 r1 r2 r3 r4 r5 r6 r7 r8
        obtain ⟨W7, HW7⟩ : ∃ z, Hid (w7.alloc (.cells #[.slice saA snA scA, .slice aaA anA acA] 55) = z) := ⟨_, rfl⟩
        have hal : Below w7.heap.size w7 W7 := by rw [← HW7.out]; exact abal _ _
        have hc7 : Below W6.heap.size W6 W7 := abvia hbq hal
        have XA : Hid (BoxA W7 w7.heap.size (.slice saA snA scA) (.slice aaA anA acA)) := by show BoxA _ _ _ _; rw [← HW7.out]; exact BoxA.new _ _ _ _
        have HA7 := Lib.hid (hOA.out hIA (F := fun _ => False) (.of hal) (fun _ _ _ h => h))
        have HM7 := Lib.hid (HM6.out.1.out HM6.out.2 (F := fun _ => False) (.of hc7) (fun _ _ _ h => h))
        have HX7 := Lib.hid (HXM.out.via hc7)
        have HH7 := Lib.hid (HH6.out.via hc7)
        have HG7 := Lib.hid (HG6.out.via hc7)
        have HB7 : Hid (Below w.heap.size w W7) := HB6.out.trans (hc7.mono HB6.out.size)
        have S77 : Hid (W6.heap.size ≤ w7.heap.size) := hbq.size
        have CK := Lib.hid (kept_any HIX.out HB7.out HH7.out J4.out J5.out)
        simp only [Ar.v] at CK
        rw [J1.out, HR.out.eh] at CK
        have g3 : (w7.alloc (.cells #[.slice saA snA scA, .slice aaA anA acA] 55)).cell? ⟨b, off + k * 7 + 3, none⟩ = some (.slice sa sn sc) := by rw [HW7.out, Nat.add_assoc]; exact HSC.out W7 HB7.out 3 _ rfl
        have g4 : (w7.alloc (.cells #[.slice saA snA scA, .slice aaA anA acA] 55)).cell? ⟨b, off + k * 7 + 4, none⟩ = some (.slice aa an ac) := by rw [HW7.out, Nat.add_assoc]; exact HSC.out W7 HB7.out 4 _ rfl
        clear hIA hOA hbq hal hc7
        go_wp2_with fail
        rw [HW7.out]
        refine CK.out.mono ?_; rintro e w8 ⟨rfl, hO8, H'', hP1, hP2, hP3⟩
        have hHF := HHF.out
        have hGF := HGF.out
        obtain ⟨u1, u2, u3, u4⟩ := S66.out
        have u5 := S77.out
        have hb8 : Below w.heap.size w w8 := HB7.out.trans (hO8.toBelow (fun j hj => (hHF j hj).2.2.1) HB7.out.size)
        have hG8 : G'.Is w.heap.size w8 := HG7.out.out hO8 (fun j hj h => (hGF j hj).2.2.2.1 h)
        have HB8 := Lib.hid hb8
        have CK2 := Lib.hid (kept_any HIY.out hb8 hG8 K4.out K5.out)
        simp only [Ar.v] at CK2
        rw [K1.out, HR.out.eg] at CK2
        have HA8 := Lib.hid (HA7.out.1.out HA7.out.2 hO8 (fun j h1 h2 h => by have := (hHF j h).2.1; omega))
        have HX8 := Lib.hid (hO8.boxA HX7.out (fun h => by
          have h1 := S34.out
          rcases (hHF _ h).1 with h | h <;> omega))
        have HXA8 := Lib.hid (hO8.boxA XA.out (fun h => by have := (hHF _ h).2.1; omega))
        have o1 := hO8.own HM7.out.1.shp (fun g hg h => by
          have h1 := HL45.out.1 g hg
          have h2 := (own_block HM7.out.1.shp hg).1
          have h3 := S34.out
          rcases (hHF _ h).1 with h | h <;> omega)
        have o2 := hO8.own HM7.out.1.ats (fun g hg h => by
          have h1 := HL45.out.2 g hg
          have h2 := (own_block HM7.out.1.ats hg).1
          have h3 := S34.out
          rcases (hHF _ h).1 with h | h <;> omega)
        have O1 := Lib.hid o1
        have O2 := Lib.hid o2
        have Q1 := Lib.hid hP1
        have Q2 := Lib.hid hP2
        have Q3 := Lib.hid hP3
        have h5 : w8.cell? ⟨b, off + k * 7 + 5, none⟩ = some (.slice ta tn tc) := by rw [Nat.add_assoc]; exact HSC.out w8 hb8 5 _ rfl
        have h6 : w8.cell? ⟨b, off + k * 7 + 6, none⟩ = some (.slice ba bn bc) := by rw [Nat.add_assoc]; exact HSC.out w8 hb8 6 _ rfl
        clear hO8 hP1 hP2 hP3 hHF hGF hb8 hG8 o1 o2 g3 g4 u1 u2 u3 u4 u5
        go_wp2_with fail
        refine CK2.out.mono ?_; rintro e w9 ⟨rfl, hO9, G'', hT1, hT2, hT3⟩
        have hGF := HGF.out
        have hHF := HHF.out
        obtain ⟨u1, u2, u3, u4⟩ := S66.out
        have u5 := S77.out
        have hb9 : Below w.heap.size w w9 := HB8.out.trans (hO9.toBelow (fun j hj => (hGF j hj).2.2.1) HB8.out.size)
        have hA9 := HA8.out.1.out HA8.out.2 hO9 (fun j h1 h2 h => by have := (hGF j h).2.1; omega)
        have v1 := hO9.own O1.out (fun g hg h => by
          have h1 := HL45.out.1 g hg
          have h2 := (own_block O1.out hg).1
          have h3 := S34.out
          rcases (hGF _ h).1 with h | h <;> omega)
        have v2 := hO9.own O2.out (fun g hg h => by
          have h1 := HL45.out.2 g hg
          have h2 := (own_block O2.out hg).1
          have h3 := S34.out
          rcases (hGF _ h).1 with h | h <;> omega)
        have hMI : Ar.Is ⟨saM, snM, scM, aaM, anM, acM, fs, fa⟩ w9 := ⟨ls_of_own v1 HM7.out.2.shp.big HM7.out.2.shp.rng, ls_of_own v2 HM7.out.2.ats.big HM7.out.2.ats.rng⟩
        obtain ⟨m0, m1, -, -, -⟩ := hO9.boxA HX8.out (fun h => by
          have h1 := S34.out
          rcases (hGF _ h).1 with h | h <;> omega)
        obtain ⟨l0, l1, -, -, -⟩ := hO9.boxA HXA8.out (fun h => by have := (hGF _ h).2.1; omega)
        have CE := Lib.hid (eq_any (w := w9) (A := ⟨saA, snA, scA, aaA, anA, acA, fs, fa⟩) hA9.2 hMI)
        simp only [Ar.v, and_self, decide_true] at CE
        have HRY : Hid (RndI w w9 w1.heap.size (w1.heap.size + 1) H'' G'') := by
          refine ⟨Q3.out.out hO9 (fun j hj h => (hGF j h).2.2.2.1 (Q2.out j hj)), hT3, by rw [Q1.out, J1.out, HR.out.eh], by rw [hT1, K1.out, HR.out.eg], fun j hj h => (hGF j (hT2 j h)).2.2.2.1 (Q2.out j hj), hb9⟩
        have hee : (fe != fe) = false := by simp
        clear hO9 hT1 hT2 hT3 hGF hHF hb9 hA9 v1 v2 hMI h5 h6 u1 u2 u3 u4 u5
        go_wp2_with fail
        refine CE.out.mono ?_; rintro e w10 ⟨rfl, hbq⟩
        have HRZ := Lib.hid (HRY.out.via hbq)
        clear hbq m0 m1 l0 l1
        go_wp2
        go_roundw
        case rel => exact ⟨k + 1, H'', G'', by omega, by go_num, HRZ⟩
        case measure => simp [RowKit.intOf]; omega
    · have hge : (n : Int) ≤ k := by omega
      go_wp2
      go_ret
      exact RetB.mk rfl HR.out.below
end Go.Proofs.Ytdedbfbkakofgaa

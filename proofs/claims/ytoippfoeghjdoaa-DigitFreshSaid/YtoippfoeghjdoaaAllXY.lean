/- The walk of DigitAll's and MoldAll's function, over contracts of the layer's package and of the document's. -/
import Derived.Test.YtoippfoeghjdoaaPlaysXY
namespace Go.Proofs.Ytoippfoeghjdoaa
open Go.RowKit Go.Lib
set_option linter.unusedVariables false
set_option linter.unusedSimpArgs false
attribute [local go_sem] alloc_drewN setCell_drewN
set_option maxRecDepth 100000 in
set_option maxHeartbeats 1600000 in
theorem size4_any {w : World} {A : Ar} (hA : A.Is w) : Calls Try.prog 28 #[A.v] w (RetB w (.int .i64 ((A.sn : Int) + A.an))) := by
  obtain ⟨sa, sn, sc, aa, an, ac, s, a⟩ := A
  have b1 := hA.shp.big
  have b2 := hA.ats.big
  simp only [Ar.v] at b1 b2 ⊢
  clear hA
  go_enter Try.func28, Try.ntmps28
  go_wp2
  go_ret
  exact RetB.mk rfl (abal _ _)
section
variable {base : Nat} {w wx : World} {Q : Nat × Nat × Nat → Rw} {hb : Nat} {has : Int → Int → Bool} {mon : Int → List Int → List Int → List Int × List Int × Int} {dya : Int → List Int → List Int → List Int → List Int → List Int × List Int × Int}
/-- How much a call is handed. -/
def SizeQ (w : World) (e : Ending) (w' : World) : Prop := ∃ N : Int, e = .returned (.int .i64 N) ∧ 0 ≤ N ∧ N ≤ 70368744175616 ∧ Below w.heap.size w w'
set_option maxRecDepth 100000 in
set_option maxHeartbeats 1600000 in
theorem size8x_any {w : World} {o : Opv} (hX : o.x.Is w) (hY : o.y.Is w) : Calls Try.prog 11 #[.agg o.cells] w (RetB w (.int .i64 ((o.x.sn : Int) + o.x.an + ((o.y.sn : Int) + o.y.an)))) := by
  obtain ⟨kk, op, nn, ⟨sa, sn, sc, aa, an, ac, s, a⟩, ⟨ta, tn, tc, ba, bn, bc, t, b'⟩⟩ := o
  simp only [Opv.cells]
  simp only at hX hY
  have b1 := hX.shp.big
  have b2 := hX.ats.big
  have b3 := hY.shp.big
  have b4 := hY.ats.big
  simp only at b1 b2 b3 b4
  obtain ⟨b, HBB⟩ : ∃ z, Hid (w.heap.size = z) := ⟨_, rfl⟩
  obtain ⟨W, HW⟩ : ∃ z, Hid (w.alloc (.cells #[.int .i64 kk, .int .i64 op, .int .i64 nn, .slice sa sn sc, .slice aa an ac, .slice ta tn tc, .slice ba bn bc] 40) = z) := ⟨_, rfl⟩
  have hw : Below w.heap.size w W := by rw [← HW.out]; exact abal _ _
  have BO : Hid (BoxN W b #[.int .i64 kk, .int .i64 op, .int .i64 nn, .slice sa sn sc, .slice aa an ac, .slice ta tn tc, .slice ba bn bc]) := by show BoxN _ _ _; rw [← HW.out, ← HBB.out]; exact BoxN.new _ _ _
  have CX := Lib.hid (size4_any (hX.via (abvia hw (adrew1 _))))
  have CY := Lib.hid (fun (w1 : World) (h : Below W.heap.size W w1) => size4_any (hY.via (abvia hw h)))
  simp only [Ar.v] at CX CY
  have HWB := Lib.hid hw
  have p3 := BO.out.c 3 _ rfl
  have p4 := BO.out.c 4 _ rfl
  have p5 := BO.out.c 5 _ rfl
  have p6 := BO.out.c 6 _ rfl
  clear hX hY hw
  go_enter Try.func11, Try.ntmps11
  go_upto_region 1 with fail
  rw [HW.out, HBB.out]
  go_region_held3 (fun v => v.cell? ⟨b, 3, none⟩ = some (.slice sa sn sc) ∧ v.cell? ⟨b, 4, none⟩ = some (.slice aa an ac) ∧ v.cell? ⟨b, 5, none⟩ = some (.slice ta tn tc) ∧ v.cell? ⟨b, 6, none⟩ = some (.slice ba bn bc)) (go_keep)
    (first
    | (go_at_call 28; (with_reducible refine Calls.mono CX.out ?_); rintro e w1 ⟨rfl, hb1⟩; have HB1 := Lib.hid (abvia (adrew1 W) hb1); have CY1 := Lib.hid (CY.out w1 HB1.out); have BO1 := Lib.hid (BO.out.out (F := fun _ => False) (.of HB1.out) (fun h => h)); clear hb1 CX p3 p4 p5 p6; have p3 := BO1.out.c 3 _ rfl; have p4 := BO1.out.c 4 _ rfl; have p5 := BO1.out.c 5 _ rfl; have p6 := BO1.out.c 6 _ rfl)
    | (have hreq := CY1; go_at_call 28; (with_reducible refine Calls.mono CY1.out ?_); rintro e w2 ⟨rfl, hb2⟩; have HB2 := Lib.hid (abvia HWB.out (abvia HB1.out hb2)); have BO2 := Lib.hid (BO1.out.out (F := fun _ => False) (.of hb2) (fun h => h)); clear hb2 CY1 hreq p3 p4 p5 p6; have p3 := BO2.out.c 3 _ rfl; have p4 := BO2.out.c 4 _ rfl; have p5 := BO2.out.c 5 _ rfl; have p6 := BO2.out.c 6 _ rfl))
  clear p3 p4 p5 p6
  go_wp2
  go_ret
  exact ⟨by (show Ending.returned (Value.int .i64 (IntKind.i64.wrap _)) = _; rw [show IntKind.i64.wrap ((sn : Int) + an + ((tn : Int) + bn)) = (sn : Int) + an + ((tn : Int) + bn) from IntWalk.i64_in _ (by omega)]), HB2.out⟩
theorem size8_any {w : World} {o : Opv} (hX : o.x.Is w) (hY : o.y.Is w) : Calls Try.prog 11 #[.agg o.cells] w (SizeQ w) :=
  (size8x_any hX hY).mono fun e w' ⟨h1, h2⟩ => ⟨_, h1, by omega, by have := hX.shp.big; have := hX.ats.big; have := hY.shp.big; have := hY.ats.big; omega, h2⟩
set_option maxRecDepth 100000 in
set_option maxHeartbeats 1600000 in
theorem over4_any {T : TypeId} {wb : Nat} {h1 h2 : Option (Rw × Rw)} {n N : Int} (H : St4 base w T hb Q h1 h2 wx) (e : Q (5, 0, 0) = ⟨35, 1, some ⟨wb, 0, none⟩, 1, 1, [.int .i64 n]⟩) (hn : 0 ≤ n ∧ n ≤ 4194304) (hN : 0 ≤ N ∧ N ≤ 70368744175616) :
    Calls Try.prog 10 #[.pointer (some ⟨wb, 0, none⟩), .int .i64 N] wx (fun e' w' => e' = .returned (.bool (decide (4194304 < n + 100 + N))) ∧ St4 base w T hb (updR Q (5, 0, 0) ⟨35, 1, some ⟨wb, 0, none⟩, 1, 1, [.int .i64 (n + 100 + N)]⟩) h1 h2 w') := by
  have d0 := H.cell (t := (5, 0, 0)) (by simp) e 0 _ rfl
  have f0 := H.frozen (t := (5, 0, 0)) (by simp) e 0
  have hP := H.put (t := (5, 0, 0)) (by simp) e 0 (.int .i64 (n + 100 + N))
  have HP := Lib.hid hP
  clear H e hP
  go_enter Try.func10, Try.ntmps10
  go_wp2
  go_ret
  exact ⟨rfl, HP.out⟩
/-- No row is held yet. -/
def hn4 (t : Nat × Nat × Nat) : Rw := ⟨if t = (0, 1, 1) ∨ t = (0, 2, 1) then 2 else if t = (0, 1, 0) ∨ t = (0, 2, 0) then 3 else 0, 1, none, 0, 0, []⟩
theorem hold04 (w : World) : Hold w.heap.size w hn4 := ⟨fun t => World.ownsRow_nil _ _ _ _, fun t s _ g hg => absurd hg (by simp [hn4, Rw.v, Value.ownBlock]), Nat.le_refl _⟩
theorem st4_new {w w1 : World} (T : TypeId) (hb : Below w.heap.size w w1) :
    St4 w.heap.size w T w1.heap.size (updR (updR hn4 (0, 0, 0) ⟨T, 4, some ⟨w1.heap.size, 0, none⟩, 1, 1, [.slice none 0 0, .slice none 0 0, .slice none 0 0, .slice none 0 0]⟩) (5, 0, 0) ⟨35, 1, some ⟨w1.heap.size + 1, 0, none⟩, 1, 1, [.int .i64 0]⟩) none none
      ((w1.alloc (.cells #[.slice none 0 0, .slice none 0 0, .slice none 0 0, .slice none 0 0] T)).alloc (.cells #[.int .i64 0] 35)) := by
  have h1 : Hold w.heap.size w1 hn4 := (hold04 w).via hb
  have h2 := h1.alloc (0, 0, 0) (cs := #[.slice none 0 0, .slice none 0 0, .slice none 0 0, .slice none 0 0]) (E := T) (sz := 4) (n := 1) rfl (by decide)
  have h3 := h2.alloc (5, 0, 0) (cs := #[.int .i64 0]) (E := 35) (sz := 1) (n := 1) rfl (by decide)
  simp only [World.size_alloc] at h3
  refine ⟨_, h3, ⟨?_, ?_, ?_, ?_, ?_⟩, fun t ht => ?_, fun r e => absurd e (by simp), fun r e => absurd e (by simp), hb.trans ((abvia (abal _ _) (abal _ _)).mono hb.size)⟩
  · rw [updR_ne (by simp), updR_eq]; rfl
  · exact ⟨none, 0, [], by rw [updR_ne (by simp), updR_ne (by simp)]; rfl⟩
  · exact ⟨none, 0, [], by rw [updR_ne (by simp), updR_ne (by simp)]; rfl⟩
  · exact ⟨none, 0, [], by rw [updR_ne (by simp), updR_ne (by simp)]; rfl⟩
  · exact ⟨none, 0, [], by rw [updR_ne (by simp), updR_ne (by simp)]; rfl⟩
  · rfl
theorem plays8_any (PK : Pkg8 has mon dya) {w0 : World} (H : St4 base w 32 hb Q none none wx) (hq : Q (9, 9, 0) = Rw.nil ∧ Q (9, 9, 1) = Rw.nil) {o : Opv} (hX : o.x.Is w0) (hY : o.y.Is w0) (h0 : w0.heap.size ≤ base) (hb0 : Below base w0 w) :
    Calls Try.prog 12 #[.pointer (some ⟨hb, 0, none⟩), .agg o.cells] wx (PlQ base w 32 hb Q) := by
  by_cases h1 : o.k = 1
  · exact plays8_has PK H hq hX hY h0 hb0 h1
  by_cases h2 : o.k = 2
  · exact plays8_monad PK H hq hX hY h0 hb0 h2
  by_cases h3 : o.k = 3
  · exact plays8_dyad PK H hq hX hY h0 hb0 h3
  exact plays8_no PK H hq hX hY h0 hb0 ⟨h1, h2, h3⟩
set_option maxRecDepth 100000 in
set_option maxHeartbeats 3200000 in
theorem all8_any (PK : Pkg8 has mon dya) {w : World} {ao : Option Addr} {n c : Nat} {os : Nat → Opv} (hO : Ops w ao n c os) :
    Calls Try.prog 3 #[.slice ao n c] w (RetB w (.bool true)) := by
  have BG := Lib.hid (PK.cbegun w)
  have hbig := hO.big
  have HOP := Lib.hid hO
  have HPK := Lib.hid PK
  clear hO PK
  go_enter Try.func3, Try.ntmps3
  go_wp2_with fail
  refine BG.out.mono ?_; rintro e w1 ⟨rfl, hb1⟩
  obtain ⟨W2, HW2⟩ : ∃ z, Hid ((w1.alloc (.cells #[.slice none 0 0, .slice none 0 0, .slice none 0 0, .slice none 0 0] 32)).alloc (.cells #[.int .i64 0] 35) = z) := ⟨_, rfl⟩
  have hS := st4_new 32 hb1
  rw [HW2.out] at hS
  obtain ⟨Q0, HQ0⟩ : ∃ z, Hid (updR (updR hn4 (0, 0, 0) ⟨32, 4, some ⟨w1.heap.size, 0, none⟩, 1, 1, [.slice none 0 0, .slice none 0 0, .slice none 0 0, .slice none 0 0]⟩) (5, 0, 0) ⟨35, 1, some ⟨w1.heap.size + 1, 0, none⟩, 1, 1, [.int .i64 0]⟩ = z) := ⟨_, rfl⟩
  have HQ5 : Hid (Q0 (5, 0, 0) = ⟨35, 1, some ⟨w1.heap.size + 1, 0, none⟩, 1, 1, [.int .i64 0]⟩ ∧ Q0 (9, 9, 0) = Rw.nil ∧ Q0 (9, 9, 1) = Rw.nil) := by
    refine ⟨?_, ?_, ?_⟩
    · rw [← HQ0.out, updR_eq]
    · rw [← HQ0.out, updR_ne (by simp), updR_ne (by simp)]; rfl
    · rw [← HQ0.out, updR_ne (by simp), updR_ne (by simp)]; rfl
  rw [HQ0.out] at hS
  have HS := Lib.hid hS
  clear hS hb1
  go_wp2_with fail
  rw [HW2.out]
  go_loopw [5] (fun v5 wr => ∃ (k : Nat) (n0 : Int) (Q : Nat × Nat × Nat → Rw), k ≤ n ∧ v5 = .int .i64 k ∧ 0 ≤ n0 ∧ n0 ≤ 4194304 ∧ Hid (St4 w.heap.size w 32 w1.heap.size Q none none wr) ∧ Hid (Q (5, 0, 0) = ⟨35, 1, some ⟨w1.heap.size + 1, 0, none⟩, 1, 1, [.int .i64 n0]⟩ ∧ Q (9, 9, 0) = Rw.nil ∧ Q (9, 9, 1) = Rw.nil)) (fun v5 _ => n - (RowKit.intOf v5).toNat)
  case atStart => exact ⟨0, 0, Q0, Nat.zero_le _, rfl, by omega, by omega, HS, HQ5⟩
  case round =>
    clear HS HQ5
    obtain ⟨k, n0, Q, hk, rfl, hn1, hn2, HS, HQ⟩ := hrel
    by_cases hlt : k < n
    · have hlt' : (k : Int) < n := by omega
      obtain ⟨b, off, rfl, hbl, hcs⟩ := HOP.out.mem (by omega)
      have hck := hcs k hlt
      have HIX := Lib.hid (HOP.out.x k hlt)
      have HIY := Lib.hid (HOP.out.y k hlt)
      obtain ⟨o, HOK⟩ : ∃ o, Hid (os k = o) := ⟨_, rfl⟩
      rw [HOK.out] at hck HIX HIY
      have CZ := Lib.hid (size8_any (HIX.out.below HS.out.below (Nat.le_refl _)) (HIY.out.below HS.out.below (Nat.le_refl _)))
      have CP := Lib.hid (fun (wy : World) (Qy : Nat × Nat × Nat → Rw) (h : St4 w.heap.size w 32 w1.heap.size Qy none none wy) (hq : Qy (9, 9, 0) = Rw.nil ∧ Qy (9, 9, 1) = Rw.nil) => plays8_any HPK.out h hq HIX.out HIY.out (Nat.le_refl _) (Below.refl _ _))
      obtain ⟨kk, op, nn, ⟨sa, sn, sc, aa, an, ac, s, a⟩, ⟨ta, tn, tc, ba, bn, bc, t, b'⟩⟩ := o
      simp only [Opv.cells] at CP CZ
      have HSC : Hid (∀ wy, Below w.heap.size w wy → wy.cell? ⟨b, off + k * 7, none⟩ = some (.int .i64 kk) ∧ wy.cell? ⟨b, off + k * 7 + 1, none⟩ = some (.int .i64 op) ∧ wy.cell? ⟨b, off + k * 7 + 2, none⟩ = some (.int .i64 nn) ∧ wy.cell? ⟨b, off + k * 7 + 3, none⟩ = some (.slice sa sn sc) ∧ wy.cell? ⟨b, off + k * 7 + 4, none⟩ = some (.slice aa an ac) ∧ wy.cell? ⟨b, off + k * 7 + 5, none⟩ = some (.slice ta tn tc) ∧ wy.cell? ⟨b, off + k * 7 + 6, none⟩ = some (.slice ba bn bc)) := by
        intro wy hy
        have f := fun j v hj => (hy.cell (p := ⟨b, off + (k * 7 + j), none⟩) hbl).trans (hck j v hj)
        refine ⟨f 0 _ rfl, ?_, ?_, ?_, ?_, ?_, ?_⟩
        · rw [Nat.add_assoc]; exact f 1 _ rfl
        · rw [Nat.add_assoc]; exact f 2 _ rfl
        · rw [Nat.add_assoc]; exact f 3 _ rfl
        · rw [Nat.add_assoc]; exact f 4 _ rfl
        · rw [Nat.add_assoc]; exact f 5 _ rfl
        · rw [Nat.add_assoc]; exact f 6 _ rfl
      obtain ⟨d0, d1, d2, d3, d4, d5, d6⟩ := HSC.out wr HS.out.below
      clear hcs hck
      go_wp2_with fail
      refine CZ.out.mono ?_; rintro e w3 ⟨N, rfl, hN0, hN1, hB3⟩
      have hS3 := HS.out.via hB3
      have CO := Lib.hid (over4_any hS3 HQ.out.1 ⟨hn1, hn2⟩ ⟨hN0, hN1⟩)
      clear hS3 hB3 d0 d1 d2 d3 d4 d5 d6
      obtain ⟨T, hT⟩ : ∃ T : Int, n0 + 100 + N = T := ⟨_, rfl⟩
      have HT := Lib.hid hT
      rw [hT] at CO
      clear hT
      by_cases hov : 4194304 < T
      · have hdd : decide (4194304 < T) = true := by simpa using hov
        rw [hdd] at CO
        go_wp2_with fail
        refine CO.out.mono ?_; rintro e w4 ⟨rfl, hS4⟩
        have HF := Lib.hid hS4.below
        clear hS4
        go_wp2
        go_ret
        exact RetB.mk rfl HF.out
      · have hdd : decide (4194304 < T) = false := by simpa using hov
        rw [hdd] at CO
        go_wp2_with fail
        refine CO.out.mono ?_; rintro e w4 ⟨rfl, hS4⟩
        have hT0 : 0 ≤ T := by have := HT.out; omega
        have hT1 : T ≤ 4194304 := by omega
        have CP4 := Lib.hid (CP.out w4 _ hS4 ⟨(updR_ne (by simp)).trans HQ.out.2.1, (updR_ne (by simp)).trans HQ.out.2.2⟩)
        obtain ⟨d0, d1, d2, d3, d4, d5, d6⟩ := HSC.out w4 hS4.below
        clear hS4 hov
        go_wp2_with fail
        refine CP4.out.mono ?_; rintro e w5 ⟨rfl, Q5, hS5, hq5, hq9⟩
        rw [updR_eq] at hq5
        have HS5 := Lib.hid hS5
        have HQ5 := Lib.hid (And.intro hq5 hq9)
        clear hS5 hq5 hq9 d0 d1 d2 d3 d4 d5 d6
        go_wp2
        go_roundw
        case rel => exact ⟨k + 1, T, Q5, by omega, by go_num, hT0, hT1, HS5, HQ5⟩
        case measure => simp [RowKit.intOf]; omega
    · have hge : (n : Int) ≤ k := by omega
      go_wp2
      go_ret
      exact RetB.mk rfl HS.out.below
end
end Go.Proofs.Ytoippfoeghjdoaa

/- DigitFresh, MoldFresh: the walk of the statement's function, over contracts of the layer's package and of the document's. -/
import Derived.Test.YtoippfoeghjdoaaAgainXY
import Derived.Deep.CutBlock
namespace Go.Proofs.Ytoippfoeghjdoaa
open Go.RowKit Go.Lib
set_option linter.unusedVariables false
set_option linter.unusedSimpArgs false
attribute [local go_sem] alloc_drewN setCell_drewN frozen_past
theorem Sp.as {F0 : Nat → Prop} {w0 w : World} {L M : List Pt} (h : Sp F0 w0 w L) (e : L = M) : Sp F0 w0 w M := e ▸ h
set_option maxRecDepth 100000 in
set_option maxHeartbeats 1600000 in
theorem overS_any {w wx : World} {wb : Nat} {n N : Int} (H : Sp Non w wx [Pt.row ⟨35, 1, some ⟨wb, 0, none⟩, 1, 1, [.int .i64 n]⟩]) (hn : 0 ≤ n ∧ n ≤ 4194304) (hN : 0 ≤ N ∧ N ≤ 70368744175616) :
    Calls Try.prog 10 #[.pointer (some ⟨wb, 0, none⟩), .int .i64 N] wx (fun e' w' => e' = .returned (.bool (decide (4194304 < n + 100 + N))) ∧ Sp Non w w' [Pt.row ⟨35, 1, some ⟨wb, 0, none⟩, 1, 1, [.int .i64 (n + 100 + N)]⟩]) := by
  have d0 := H.cell (i := 0) rfl 0 _ rfl
  have f0 := H.frozen (i := 0) rfl 0
  have HP := Lib.hid (H.put (i := 0) rfl 0 (.int .i64 (n + 100 + N)))
  clear H
  go_enter Try.func10, Try.ntmps10
  go_wp2
  go_ret
  exact ⟨rfl, HP.out⟩
/-- A call that may be gone through: not too much is handed in. -/
def FitO (o : Opv) : Prop := o.x.sn ≤ 4194304 ∧ o.x.an ≤ 4194304 ∧ o.y.sn ≤ 4194304 ∧ o.y.an ≤ 4194304
/-- What is held between calls: a book, and arrays that are left untouched. -/
def FrQ (w : World) (bb qb k : Nat) (wr : World) : Prop :=
  ∃ (R : Nat × Nat × Nat → Rw) (K L n : Nat) (mu mq : Int) (va wa : Nat → Ar) (nm : Nat → Nat), Hold w.heap.size wr R ∧ Bk4 R 10 bb K mu L ∧ Qt R qb n mq va wa nm (2 * k) ∧ Below w.heap.size w wr ∧ mu ≤ k * 136458528 ∧ mq ≤ k * 754977120
theorem Bk4.congr {R R' : Nat × Nat × Nat → Rw} {o bb K L : Nat} {mu : Int} (h : Bk4 R o bb K mu L) (hR : ∀ t, t.1 = o → R' t = R t) : Bk4 R' o bb K mu L := by
  have e : ∀ a b, R' (o, a, b) = R (o, a, b) := fun a b => hR _ rfl
  refine ⟨?_, ?_, fun k hk => ?_, h.sl, h.lb⟩
  · rw [e]
    refine ⟨?_, ?_, fun k hk => ?_, h.b2.s0, h.b2.s1, h.b2.kb⟩
    · rw [e, e]; exact h.b2.obj
    · rw [e]; simp only [e]; exact h.b2.l1
    · rw [e]; exact h.b2.e1 k hk
  · rw [e]; simp only [e]; exact h.l2
  · rw [e]; exact h.e2 k hk
theorem FrQ.start {w w3 : World} (hb : Below w.heap.size w w3) : FrQ w w3.heap.size (w3.heap.size + 1) 0 ((w3.alloc (.cells #[.slice none 0 0, .int .i64 0, .slice none 0 0] 50)).alloc (.cells #[.slice none 0 0, .slice none 0 0, .int .i64 0] 54)) := by
  have h0 : Hold w.heap.size w3 (fun _ => Rw.nil) := (Hold.rows0 w).via hb
  have h1 := newB4_hold h0 10
  have nil_dis : ∀ (R : Nat × Nat × Nat → Rw) (E : TypeId) (sz : Nat) (t : Nat × Nat × Nat), ∀ s, s ≠ t → ∀ g, (⟨E, sz, none, 0, 0, []⟩ : Rw).v.ownBlock = some g → (R s).v.ownBlock ≠ some g := fun R E sz t s _ g hg => by simp [Rw.v, Value.ownBlock] at hg
  have h2 := (h1.add (20, 1, 0) (r := ⟨38, 2, none, 0, 0, []⟩) (World.ownsRow_nil _ _ _ _) (nil_dis _ _ _ _)).add (20, 2, 0) (r := ⟨38, 2, none, 0, 0, []⟩) (World.ownsRow_nil _ _ _ _) (nil_dis _ _ _ _)
  have h3 := h2.alloc (20, 0, 0) (cs := #[.slice none 0 0, .slice none 0 0, .int .i64 0]) (E := 54) (sz := 3) (n := 1) rfl (by decide)
  simp only [World.size_alloc] at h3
  refine ⟨_, 0, 0, 0, 0, 0, fun _ => ⟨none, 0, 0, none, 0, 0, [], []⟩, fun _ => ⟨none, 0, 0, none, 0, 0, [], []⟩, fun _ => 0, h3, (newB4_bk (fun _ => Rw.nil) 10 _).congr (fun t ht => ?_), ⟨?_, ⟨none, 0, ?_⟩, ⟨none, 0, ?_⟩, fun k hk => absurd hk (Nat.not_lt_zero _), fun k hk => absurd hk (Nat.not_lt_zero _), fun k hk => absurd hk (Nat.not_lt_zero _), by omega, by omega, by omega, fun k hk => absurd hk (Nat.not_lt_zero _)⟩, hb.trans ((abvia (abal _ _) (abal _ _)).mono hb.size), by omega, by omega⟩
  · rw [updR_ne (fun e => by rw [e] at ht; cases ht), updR_ne (fun e => by rw [e] at ht; cases ht), updR_ne (fun e => by rw [e] at ht; cases ht)]
  · rw [updR_eq, updR_ne (by simp), updR_ne (by simp), updR_eq, updR_ne (by simp), updR_eq]; rfl
  · rw [updR_ne (by simp), updR_ne (by simp), updR_eq]; rfl
  · rw [updR_ne (by simp), updR_eq]; rfl
section
variable {has : Int → Int → Bool} {mon : Int → List Int → List Int → List Int × List Int × Int} {dya : Int → List Int → List Int → List Int → List Int → List Int × List Int × Int}
set_option maxRecDepth 100000 in
set_option maxHeartbeats 12800000 in
theorem fresh8_any (PK : Pkg8 has mon dya) (FT : Fit mon dya) {w : World} {ao : Option Addr} {n c : Nat} {os : Nat → Opv} (hO : Ops w ao n c os) :
    Calls Try.prog 4 #[.slice ao n c] w (RetB w (.bool true)) := by
  have BG := Lib.hid (PK.cbegun w)
  have hbig := hO.big
  have hcap := hO.cap
  have HOP := Lib.hid hO
  have HPK := Lib.hid PK
  have HFT := Lib.hid FT
  have HSC : Hid (∀ k, k < n → ∃ b off, ao = some ⟨b, off, none⟩ ∧ b < w.heap.size ∧ ∀ wy, Below w.heap.size w wy → ∀ j v, (os k).cells[j]? = some v → wy.cell? ⟨b, off + (k * 7 + j), none⟩ = some v) := fun k hk => by
    obtain ⟨b, off, e, hbl, hcs⟩ := hO.mem (by omega)
    exact ⟨b, off, e, hbl, fun wy hy j v hj => (hy.cell (p := ⟨b, off + (k * 7 + j), none⟩) hbl).trans (hcs k hk j v hj)⟩
  clear hO PK FT
  go_enter Try.func4, Try.ntmps4
  go_wp2_with fail
  refine BG.out.mono ?_; rintro e w1 ⟨rfl, hb1⟩
  obtain ⟨W2, HW2⟩ : ∃ z, Hid (w1.alloc (.cells #[.int .i64 0] 35) = z) := ⟨_, rfl⟩
  obtain ⟨wb, HWB⟩ : ∃ z, Hid (w1.heap.size = z) := ⟨_, rfl⟩
  have h2 := ((Sp.start Non w).via hb1).alloc 35 1 1 #[.int .i64 0] rfl (by decide)
  rw [HW2.out, HWB.out] at h2
  have HS_ := h2
  try simp only [List.cons_append, List.nil_append, List.set_cons_zero, List.set_cons_succ, List.map_cons, List.map_nil, List.getD_cons_zero, List.getD_cons_succ, World.size_alloc] at HS_
  have HS := Lib.hid HS_
  clear HS_
  clear hb1 h2
  have hWB := HWB.out
  go_upto_block 0 with fail
  rw [HW2.out]
  go_cut [4] from 14 to 29 (fun v4 wx => ∃ k : Nat, k ≤ n ∧ k ≤ 41943 ∧ v4 = .int .i64 k ∧ Hid (∀ j, j < k → FitO (os j)) ∧ Hid (Below w.heap.size w wx))
  case first =>
    go_wp2_with fail
    go_loopw [4] (fun v4 wr => ∃ (k : Nat) (n0 : Int), k ≤ n ∧ v4 = .int .i64 k ∧ (k : Int) * 100 ≤ n0 ∧ n0 ≤ 4194304 ∧ Hid (∀ j, j < k → FitO (os j)) ∧ Hid (Sp Non w wr [Pt.row ⟨35, 1, some ⟨wb, 0, none⟩, 1, 1, [.int .i64 n0]⟩])) (fun v4 _ => n - (RowKit.intOf v4).toNat)
    case atStart => exact ⟨0, 0, Nat.zero_le _, rfl, by omega, by omega, fun j hj => absurd hj (Nat.not_lt_zero _), HS⟩
    case round =>
      clear HS
      obtain ⟨k, n0, hk, rfl, hn1, hn2, HFI, HS⟩ := hrel
      by_cases hlt : k < n
      · have hlt' : (k : Int) < n := by omega
        obtain ⟨b, off, rfl, -, hcs⟩ := HSC.out k hlt
        have HIX := Lib.hid (HOP.out.x k hlt)
        have HIY := Lib.hid (HOP.out.y k hlt)
        obtain ⟨o, HOK⟩ : ∃ o, Hid (os k = o) := ⟨_, rfl⟩
        rw [HOK.out] at hcs HIX HIY
        have CZ := Lib.hid (size8x_any (HIX.out.below HS.out.belowN (Nat.le_refl _)) (HIY.out.below HS.out.belowN (Nat.le_refl _)))
        have bx := HIX.out.shp.big
        have by' := HIX.out.ats.big
        have bz := HIY.out.shp.big
        have bu := HIY.out.ats.big
        obtain ⟨kk, op, nn, ⟨sa, sn, sc, aa, an, ac, s, a⟩, ⟨ta, tn, tc, ba, bn, bc, t, b'⟩⟩ := o
        simp only [Opv.cells] at CZ
        simp only at bx by' bz bu
        have d0 : wr.cell? ⟨b, off + k * 7, none⟩ = some (.int .i64 kk) := by exact hcs wr HS.out.belowN 0 _ rfl
        have d1 : wr.cell? ⟨b, off + k * 7 + 1, none⟩ = some (.int .i64 op) := by rw [Nat.add_assoc]; exact hcs wr HS.out.belowN 1 _ rfl
        have d2 : wr.cell? ⟨b, off + k * 7 + 2, none⟩ = some (.int .i64 nn) := by rw [Nat.add_assoc]; exact hcs wr HS.out.belowN 2 _ rfl
        have d3 : wr.cell? ⟨b, off + k * 7 + 3, none⟩ = some (.slice sa sn sc) := by rw [Nat.add_assoc]; exact hcs wr HS.out.belowN 3 _ rfl
        have d4 : wr.cell? ⟨b, off + k * 7 + 4, none⟩ = some (.slice aa an ac) := by rw [Nat.add_assoc]; exact hcs wr HS.out.belowN 4 _ rfl
        have d5 : wr.cell? ⟨b, off + k * 7 + 5, none⟩ = some (.slice ta tn tc) := by rw [Nat.add_assoc]; exact hcs wr HS.out.belowN 5 _ rfl
        have d6 : wr.cell? ⟨b, off + k * 7 + 6, none⟩ = some (.slice ba bn bc) := by rw [Nat.add_assoc]; exact hcs wr HS.out.belowN 6 _ rfl
        clear hcs
        go_wp2_with fail
        refine CZ.out.mono ?_; rintro e w3 ⟨rfl, hB3⟩
        obtain ⟨N, HNN⟩ : ∃ z : Int, Hid ((sn : Int) + an + ((tn : Int) + bn) = z) := ⟨_, rfl⟩
        have hN0 : 0 ≤ N := by have := HNN.out; omega
        have hN1 : N ≤ 70368744175616 := by have := HNN.out; omega
        rw [HNN.out]
        have CO := Lib.hid (overS_any (HS.out.via hB3) ⟨by omega, hn2⟩ ⟨hN0, hN1⟩)
        clear hB3 d0 d1 d2 d3 d4 d5 d6 HS
        obtain ⟨T, hT⟩ : ∃ T : Int, n0 + 100 + N = T := ⟨_, rfl⟩
        have HT := Lib.hid hT
        rw [hT] at CO
        clear hT bx by' bz bu
        by_cases hov : 4194304 < T
        · have hdd : decide (4194304 < T) = true := by simpa using hov
          rw [hdd] at CO
          go_wp2_with fail
          refine CO.out.mono ?_; rintro e w4 ⟨rfl, h4⟩
          have HS4 := Lib.hid h4.belowN
          have hk3 : k ≤ 41943 := by omega
          clear h4
          go_wp2_with fail
          go_meet
          exact ⟨k, hk, hk3, rfl, HFI, HS4⟩
        · have hdd : decide (4194304 < T) = false := by simpa using hov
          rw [hdd] at CO
          go_wp2_with fail
          refine CO.out.mono ?_; rintro e w4 ⟨rfl, h4⟩
          have HS4 := Lib.hid h4
          have HFI2 : Hid (∀ j, j < k + 1 → FitO (os j)) := fun j hj => by
            by_cases e : j = k
            · subst e
              rw [HOK.out]
              have h1 := HT.out
              have h2 := HNN.out
              exact ⟨by show sn ≤ _; omega, by show an ≤ _; omega, by show tn ≤ _; omega, by show bn ≤ _; omega⟩
            · exact HFI.out j (by omega)
          have hT1 : ((k + 1 : Nat) : Int) * 100 ≤ T := by have := HT.out; push_cast; omega
          clear h4
          go_wp2
          go_roundw
          case rel => exact ⟨k + 1, T, by omega, by go_num, hT1, by omega, HFI2, HS4⟩
          case measure => simp [RowKit.intOf]; omega
      · have hge : (n : Int) ≤ k := by omega
        have HS4 := Lib.hid HS.out.belowN
        have hk3 : k ≤ 41943 := by omega
        clear HS
        go_wp2_with fail
        go_meet
        exact ⟨k, hk, hk3, rfl, HFI, HS4⟩
  case rest =>
    obtain ⟨N, hN, hN4, rfl, HFI, HS⟩ := hcut
    obtain ⟨W3, hW3⟩ : ∃ z : World, z = wc := ⟨_, rfl⟩
    subst hW3
    have hNi : (N : Int) ≤ n := by omega
    have hNc : (N : Int) ≤ c := by omega
    have hF0 := FrQ.start HS.out
    obtain ⟨W4, HW4⟩ : ∃ z, Hid ((W3.alloc (.cells #[.slice none 0 0, .int .i64 0, .slice none 0 0] 50)).alloc (.cells #[.slice none 0 0, .slice none 0 0, .int .i64 0] 54) = z) := ⟨_, rfl⟩
    obtain ⟨bb, HBB⟩ : ∃ z, Hid (W3.heap.size = z) := ⟨_, rfl⟩
    rw [HW4.out, HBB.out] at hF0
    have HF0 := Lib.hid hF0
    have hBB := HBB.out
    clear hF0 HS
    go_wp2_with fail
    rw [HW4.out]
    go_loopw [7, 8, 9] (fun v7 v8 v9 wr => ∃ i : Nat, i ≤ N ∧ v7 = .int .i64 i ∧ Hid (FrQ w bb (bb + 1) i wr)) (fun v7 _ _ _ => N - (RowKit.intOf v7).toNat)
    case atStart => exact ⟨0, Nat.zero_le _, rfl, HF0⟩
    case round =>
      clear HF0
      obtain ⟨i, hi, rfl, HF⟩ := hrel
      by_cases hlt : i < N
      · have hlt' : (i : Int) < N := by omega
        obtain ⟨R, K, L, n5, mu, mq, va, wa, nm, h1, b1, q1, hB1, hmu, hmq⟩ := HF.out
        obtain ⟨b, off, rfl, hbl, hcs⟩ := HSC.out i (by omega)
        have HIX := Lib.hid (HOP.out.x i (by omega))
        have HIY := Lib.hid (HOP.out.y i (by omega))
        have hft := HFI.out i hlt
        obtain ⟨o, HOK⟩ : ∃ o, Hid (os i = o) := ⟨_, rfl⟩
        rw [HOK.out] at hcs HIX HIY hft
        have HFO := Lib.hid hft
        obtain ⟨kk, op, nn, ⟨sa, sn, sc, aa, an, ac, s, a⟩, ⟨ta, tn, tc, ba, bn, bc, t, b'⟩⟩ := o
        have HSO : Hid (∀ wy, Below w.heap.size w wy → wy.cell? ⟨b, off + i * 7, none⟩ = some (.int .i64 kk) ∧ wy.cell? ⟨b, off + i * 7 + 1, none⟩ = some (.int .i64 op) ∧ wy.cell? ⟨b, off + i * 7 + 2, none⟩ = some (.int .i64 nn) ∧ wy.cell? ⟨b, off + i * 7 + 3, none⟩ = some (.slice sa sn sc) ∧ wy.cell? ⟨b, off + i * 7 + 4, none⟩ = some (.slice aa an ac) ∧ wy.cell? ⟨b, off + i * 7 + 5, none⟩ = some (.slice ta tn tc) ∧ wy.cell? ⟨b, off + i * 7 + 6, none⟩ = some (.slice ba bn bc)) := fun wy hy => by
          have f := hcs wy hy
          refine ⟨f 0 _ rfl, ?_, ?_, ?_, ?_, ?_, ?_⟩
          · rw [Nat.add_assoc]; exact f 1 _ rfl
          · rw [Nat.add_assoc]; exact f 2 _ rfl
          · rw [Nat.add_assoc]; exact f 3 _ rfl
          · rw [Nat.add_assoc]; exact f 4 _ rfl
          · rw [Nat.add_assoc]; exact f 5 _ rfl
          · rw [Nat.add_assoc]; exact f 6 _ rfl
        have HFN : Hid (FrQ w bb (bb + 1) (i + 1) wr) := ⟨R, K, L, n5, mu, mq, va, wa, nm, h1, b1, q1.congr2 (by omega) (fun _ _ => rfl) (fun _ _ _ => rfl), hB1, by push_cast; omega, by push_cast; omega⟩
        have HH := Lib.hid h1
        have HBK := Lib.hid b1
        have HQT := Lib.hid q1
        have HBL := Lib.hid hB1
        have HBW : Hid (b < wr.heap.size) := Nat.lt_of_lt_of_le hbl hB1.size
        have HMU := Lib.hid (And.intro hmu hmq)
        obtain ⟨p0, p1, p2, p3, p4, p5, p6⟩ := HSO.out wr hB1
        clear h1 b1 q1 hB1 hmu hmq hft hcs hbl HF
        by_cases hk : kk ≠ 2 ∧ kk ≠ 3
        · have k2 : (kk != 2) = true := by simpa using hk.1
          have k3 : (kk != 3) = true := by simpa using hk.2
          clear hk
          go_wp2
          go_roundw
          case rel => exact ⟨i + 1, by omega, by go_num, HFN⟩
          case measure => simp [RowKit.intOf]; omega
        have hk23 : kk = 2 ∨ kk = 3 := by omega
        have kcase : ((kk != 2) = false) ∨ ((kk != 2) = true ∧ (kk != 3) = false) := by
          rcases hk23 with e | e <;> subst e <;> simp
        clear hk hk23
        go_upto_region 13 with fail
        go_cut [56] from 43 to 56 (fun v56 wx => v56 = .bool false ∧ wx = wr)
        case first =>
          rcases kcase with k2 | ⟨k2, k3⟩
          · go_wp2_with fail
            go_meet
            exact ⟨by first | rfl | simp, rfl⟩
          · go_wp2_with fail
            go_meet
            exact ⟨by first | rfl | simp, rfl⟩
        case rest =>
        obtain ⟨rfl, hcut0⟩ := hcut
        have hcut' := hcut0.symm
        subst hcut'
        clear hcut0 kcase p1 p2 p3 p4 p5 p6 p0
        obtain ⟨p0, p1, p2, p3, p4, p5, p6⟩ := HSO.out wr HBL.out
        have CX := Lib.hid (fun (w1 : World) (h : Below wr.heap.size wr w1) => copy4_any (HIX.out.below (HBL.out.trans (h.mono HBL.out.size)) (Nat.le_refl _)))
        have CY := Lib.hid (fun (w1 : World) (h : Below wr.heap.size wr w1) => copy4_any (HIY.out.below (HBL.out.trans (h.mono HBL.out.size)) (Nat.le_refl _)))
        simp only [Ar.v] at CX CY
        obtain ⟨S, HSS⟩ : ∃ z, Hid ((givS mon dya kk op s a t b').1 = z) := ⟨_, rfl⟩
        obtain ⟨A, HAA⟩ : ∃ z, Hid ((givS mon dya kk op s a t b').2.1 = z) := ⟨_, rfl⟩
        have CG : Hid (∀ (w1 : World) (X Y : Ar), X.s = s → X.a = a → Y.s = t → Y.a = b' → Ar.Is X w1 → Ar.Is Y w1 → Calls Try.prog 13 #[.agg #[.int .i64 kk, .int .i64 op, .int .i64 nn, .slice sa sn sc, .slice aa an ac, .slice ta tn tc, .slice ba bn bc], X.v, Y.v] w1 (fun e w' => ∃ B C : Ar, e = .returned (.tuple #[B.v, C.v]) ∧ Sp Non w1 w' [Pt.arr B, Pt.arr C] ∧ B.s = S ∧ B.a = A ∧ C.s = S ∧ C.a = A)) := fun w1 X Y g1 g2 g3 g4 h1 h2 => by
          have q := gives8_any HPK.out (O1 := ⟨sa, sn, sc, aa, an, ac, s, a⟩) (O2 := ⟨ta, tn, tc, ba, bn, bc, t, b'⟩) h1 h2 kk op nn
          rw [g1, g2, g3, g4] at q
          simp only [Opv.cells] at q
          refine q.mono ?_
          rintro e w' ⟨B, C, he, h1, h2, h3, h4, h5⟩
          rw [HSS.out] at h2 h4
          rw [HAA.out] at h3 h5
          exact ⟨B, C, he, h1, h2, h3, h4, h5⟩
        have H1 := Lib.hid (Sp.start Non wr)
        have hlt2 : (i : Int) < N := hlt'
        have yn : ¬ b = wr.heap.size := Nat.ne_of_lt HBW.out
        have ym : ¬ wr.heap.size = b := (Nat.ne_of_lt HBW.out).symm
        have hbl0 := HBW.out
        go_upto_region 14 with fail
        go_cut [8, 9] from 57 to 76 (fun v8 v9 wx => ∃ (g8 g9 : Nat) (X Y A3 A4 : Ar), v8 = .pointer (some ⟨g8, 0, none⟩) ∧ v9 = .pointer (some ⟨g9, 0, none⟩) ∧ Hid (Sp Non wr wx [Pt.arr X, Pt.arr Y, Pt.arr A3, Pt.arr A4, Pt.row ⟨38, 2, some ⟨g8, 0, none⟩, 1, 1, [.slice A3.sa A3.sn A3.sc, .slice A3.aa A3.an A3.ac]⟩, Pt.row ⟨38, 2, some ⟨g9, 0, none⟩, 1, 1, [.slice A4.sa A4.sn A4.sc, .slice A4.aa A4.an A4.ac]⟩]) ∧ Hid (A3.s = S ∧ A3.a = A ∧ A4.s = S ∧ A4.a = A))
        case first =>
          clear HPK HFT HFO HBK HQT HH HMU HIX HIY HOP HSC HFI HFN HOK HSS HAA hlt2 hlt hi hNi hNc hN hN4 BG
          go_region_held3 (fun v => v.cell? ⟨b, off + i * 7, none⟩ = some (.int .i64 kk) ∧ v.cell? ⟨b, off + i * 7 + 1, none⟩ = some (.int .i64 op) ∧ v.cell? ⟨b, off + i * 7 + 2, none⟩ = some (.int .i64 nn) ∧ v.cell? ⟨b, off + i * 7 + 3, none⟩ = some (.slice sa sn sc) ∧ v.cell? ⟨b, off + i * 7 + 4, none⟩ = some (.slice aa an ac) ∧ v.cell? ⟨b, off + i * 7 + 5, none⟩ = some (.slice ta tn tc) ∧ v.cell? ⟨b, off + i * 7 + 6, none⟩ = some (.slice ba bn bc)) (first | (with_reducible exact ⟨p0, p1, p2, p3, p4, p5, p6⟩) | go_keep)
            (((first | (rw [if_pos (by rfl)]; go_simp) | skip); (first
            | (go_at_call 14; (with_reducible refine Calls.mono (CX.out _ (H1.out.via (adrew1 _)).belowN) ?_); rintro e w1 ⟨⟨sa1, sn1, sc1, aa1, an1, ac1, s1, a1⟩, rfl, hI, hs, ha, hO, hq⟩; simp only at hs ha; have HV1 := Lib.hid (And.intro hs ha); simp only [Ar.v]; have H1_0 : Hid (Sp Non wr w1 [Pt.arr ⟨sa1, sn1, sc1, aa1, an1, ac1, s1, a1⟩]) := ((H1.out.via (adrew1 _)).arrNew hI hO hq).pick [0] (by decide); clear hI hs ha hO hq; clear p0 p1 p2 p3 p4 p5 p6 yn ym hbl0; obtain ⟨p0, p1, p2, p3, p4, p5, p6⟩ := HSO.out w1 (HBL.out.trans (H1_0.out.belowN.mono HBL.out.size)); have hbl0 : b < w1.heap.size := Nat.lt_of_lt_of_le HBW.out H1_0.out.belowN.size; have yn : ¬ b = w1.heap.size := Nat.ne_of_lt hbl0; have ym : ¬ w1.heap.size = b := (Nat.ne_of_lt hbl0).symm)
            | (go_at_call 14; (with_reducible refine Calls.mono (CX.out _ ((H1.out.alloc 38 2 1 #[.slice none 0 0, .slice none 0 0] rfl (by decide)).via (adrew1 _)).belowN) ?_); rintro e w1 ⟨⟨sa1, sn1, sc1, aa1, an1, ac1, s1, a1⟩, rfl, hI, hs, ha, hO, hq⟩; simp only at hs ha; have HV1 := Lib.hid (And.intro hs ha); simp only [Ar.v]; have H1_1 : Hid (Sp Non wr w1 [Pt.arr ⟨sa1, sn1, sc1, aa1, an1, ac1, s1, a1⟩, Pt.row ⟨38, 2, some ⟨_, 0, none⟩, 1, 1, [.slice none 0 0, .slice none 0 0]⟩]) := (((H1.out.alloc 38 2 1 #[.slice none 0 0, .slice none 0 0] rfl (by decide)).via (adrew1 _)).arrNew hI hO hq).pick [1, 0] (by decide); clear hI hs ha hO hq; clear p0 p1 p2 p3 p4 p5 p6 yn ym hbl0; obtain ⟨p0, p1, p2, p3, p4, p5, p6⟩ := HSO.out w1 (HBL.out.trans (H1_1.out.belowN.mono HBL.out.size)); have hbl0 : b < w1.heap.size := Nat.lt_of_lt_of_le HBW.out H1_1.out.belowN.size; have yn : ¬ b = w1.heap.size := Nat.ne_of_lt hbl0; have ym : ¬ w1.heap.size = b := (Nat.ne_of_lt hbl0).symm; have x00 := H1_1.out.cell (i := 1) rfl 0 _ rfl; have x01 := H1_1.out.cell (i := 1) rfl 1 _ rfl; have x02 := H1_1.out.frozen (i := 1) rfl 0; have x03 := H1_1.out.frozen (i := 1) rfl 1; have xl0 := (H1_1.out.rlt (i := 1) rfl).1; have xn0 : ¬ _ = w1.heap.size := Nat.ne_of_lt xl0; have xm0 : ¬ w1.heap.size = _ := (Nat.ne_of_lt xl0).symm; have xg0 : ¬ b = _ := Nat.ne_of_lt (Nat.lt_of_lt_of_le HBW.out ((H1_1.out.rlt (i := 1) rfl).2.elim (fun h => h.elim) id)); have xh0 : ¬ _ = b := fun e => xg0 e.symm)
            | (go_at_call 14; (with_reducible refine Calls.mono (CX.out _ (((H1.out.alloc 38 2 1 #[.slice none 0 0, .slice none 0 0] rfl (by decide)).alloc 38 2 1 #[.slice none 0 0, .slice none 0 0] rfl (by decide)).via (adrew1 _)).belowN) ?_); rintro e w1 ⟨⟨sa1, sn1, sc1, aa1, an1, ac1, s1, a1⟩, rfl, hI, hs, ha, hO, hq⟩; simp only at hs ha; have HV1 := Lib.hid (And.intro hs ha); simp only [Ar.v]; have H1_2 : Hid (Sp Non wr w1 [Pt.arr ⟨sa1, sn1, sc1, aa1, an1, ac1, s1, a1⟩, Pt.row ⟨38, 2, some ⟨_, 0, none⟩, 1, 1, [.slice none 0 0, .slice none 0 0]⟩, Pt.row ⟨38, 2, some ⟨_, 0, none⟩, 1, 1, [.slice none 0 0, .slice none 0 0]⟩]) := ((((H1.out.alloc 38 2 1 #[.slice none 0 0, .slice none 0 0] rfl (by decide)).alloc 38 2 1 #[.slice none 0 0, .slice none 0 0] rfl (by decide)).via (adrew1 _)).arrNew hI hO hq).pick [2, 0, 1] (by decide); simp only [World.size_alloc] at H1_2; clear hI hs ha hO hq; clear p0 p1 p2 p3 p4 p5 p6 yn ym hbl0; obtain ⟨p0, p1, p2, p3, p4, p5, p6⟩ := HSO.out w1 (HBL.out.trans (H1_2.out.belowN.mono HBL.out.size)); have hbl0 : b < w1.heap.size := Nat.lt_of_lt_of_le HBW.out H1_2.out.belowN.size; have yn : ¬ b = w1.heap.size := Nat.ne_of_lt hbl0; have ym : ¬ w1.heap.size = b := (Nat.ne_of_lt hbl0).symm; have x00 := H1_2.out.cell (i := 1) rfl 0 _ rfl; have x01 := H1_2.out.cell (i := 1) rfl 1 _ rfl; have x02 := H1_2.out.frozen (i := 1) rfl 0; have x03 := H1_2.out.frozen (i := 1) rfl 1; have xl0 := (H1_2.out.rlt (i := 1) rfl).1; have xn0 : ¬ _ = w1.heap.size := Nat.ne_of_lt xl0; have xm0 : ¬ w1.heap.size = _ := (Nat.ne_of_lt xl0).symm; have xg0 : ¬ b = _ := Nat.ne_of_lt (Nat.lt_of_lt_of_le HBW.out ((H1_2.out.rlt (i := 1) rfl).2.elim (fun h => h.elim) id)); have xh0 : ¬ _ = b := fun e => xg0 e.symm; have x10 := H1_2.out.cell (i := 2) rfl 0 _ rfl; have x11 := H1_2.out.cell (i := 2) rfl 1 _ rfl; have x12 := H1_2.out.frozen (i := 2) rfl 0; have x13 := H1_2.out.frozen (i := 2) rfl 1; have xl1 := (H1_2.out.rlt (i := 2) rfl).1; have xn1 : ¬ _ = w1.heap.size := Nat.ne_of_lt xl1; have xm1 : ¬ w1.heap.size = _ := (Nat.ne_of_lt xl1).symm; have xg1 : ¬ b = _ := Nat.ne_of_lt (Nat.lt_of_lt_of_le HBW.out ((H1_2.out.rlt (i := 2) rfl).2.elim (fun h => h.elim) id)); have xh1 : ¬ _ = b := fun e => xg1 e.symm; have xb0 := H1_2.out.rne (i := 1) (j := 2) (by decide) rfl rfl; have xb1 := H1_2.out.rne (i := 2) (j := 1) (by decide) rfl rfl)
            | (have hreq := H1_0; go_at_call 14; (with_reducible refine Calls.mono (CY.out _ H1_0.out.belowN) ?_); rintro e w2 ⟨⟨sa2, sn2, sc2, aa2, an2, ac2, s2, a2⟩, rfl, hI, hs, ha, hO, hq⟩; simp only at hs ha; have HV2 := Lib.hid (And.intro hs ha); simp only [Ar.v]; have H2_0 : Hid (Sp Non wr w2 [Pt.arr ⟨sa1, sn1, sc1, aa1, an1, ac1, s1, a1⟩, Pt.arr ⟨sa2, sn2, sc2, aa2, an2, ac2, s2, a2⟩]) := (H1_0.out.arrNew hI hO hq).pick [0, 1] (by decide); clear hreq hI hs ha hO hq; clear p0 p1 p2 p3 p4 p5 p6 yn ym hbl0; obtain ⟨p0, p1, p2, p3, p4, p5, p6⟩ := HSO.out w2 (HBL.out.trans (H2_0.out.belowN.mono HBL.out.size)); have hbl0 : b < w2.heap.size := Nat.lt_of_lt_of_le HBW.out H2_0.out.belowN.size; have yn : ¬ b = w2.heap.size := Nat.ne_of_lt hbl0; have ym : ¬ w2.heap.size = b := (Nat.ne_of_lt hbl0).symm; clear H1_0)
            | (have hreq := H1_0; go_at_call 14; (with_reducible refine Calls.mono (CY.out _ (H1_0.out.alloc 38 2 1 #[.slice none 0 0, .slice none 0 0] rfl (by decide)).belowN) ?_); rintro e w2 ⟨⟨sa2, sn2, sc2, aa2, an2, ac2, s2, a2⟩, rfl, hI, hs, ha, hO, hq⟩; simp only at hs ha; have HV2 := Lib.hid (And.intro hs ha); simp only [Ar.v]; have H2_1 : Hid (Sp Non wr w2 [Pt.arr ⟨sa1, sn1, sc1, aa1, an1, ac1, s1, a1⟩, Pt.arr ⟨sa2, sn2, sc2, aa2, an2, ac2, s2, a2⟩, Pt.row ⟨38, 2, some ⟨_, 0, none⟩, 1, 1, [.slice none 0 0, .slice none 0 0]⟩]) := ((H1_0.out.alloc 38 2 1 #[.slice none 0 0, .slice none 0 0] rfl (by decide)).arrNew hI hO hq).pick [0, 2, 1] (by decide); clear hreq hI hs ha hO hq; clear p0 p1 p2 p3 p4 p5 p6 yn ym hbl0; obtain ⟨p0, p1, p2, p3, p4, p5, p6⟩ := HSO.out w2 (HBL.out.trans (H2_1.out.belowN.mono HBL.out.size)); have hbl0 : b < w2.heap.size := Nat.lt_of_lt_of_le HBW.out H2_1.out.belowN.size; have yn : ¬ b = w2.heap.size := Nat.ne_of_lt hbl0; have ym : ¬ w2.heap.size = b := (Nat.ne_of_lt hbl0).symm; have x00 := H2_1.out.cell (i := 2) rfl 0 _ rfl; have x01 := H2_1.out.cell (i := 2) rfl 1 _ rfl; have x02 := H2_1.out.frozen (i := 2) rfl 0; have x03 := H2_1.out.frozen (i := 2) rfl 1; have xl0 := (H2_1.out.rlt (i := 2) rfl).1; have xn0 : ¬ _ = w2.heap.size := Nat.ne_of_lt xl0; have xm0 : ¬ w2.heap.size = _ := (Nat.ne_of_lt xl0).symm; have xg0 : ¬ b = _ := Nat.ne_of_lt (Nat.lt_of_lt_of_le HBW.out ((H2_1.out.rlt (i := 2) rfl).2.elim (fun h => h.elim) id)); have xh0 : ¬ _ = b := fun e => xg0 e.symm; clear H1_0)
            | (have hreq := H1_0; go_at_call 14; (with_reducible refine Calls.mono (CY.out _ ((H1_0.out.alloc 38 2 1 #[.slice none 0 0, .slice none 0 0] rfl (by decide)).alloc 38 2 1 #[.slice none 0 0, .slice none 0 0] rfl (by decide)).belowN) ?_); rintro e w2 ⟨⟨sa2, sn2, sc2, aa2, an2, ac2, s2, a2⟩, rfl, hI, hs, ha, hO, hq⟩; simp only at hs ha; have HV2 := Lib.hid (And.intro hs ha); simp only [Ar.v]; have H2_2 : Hid (Sp Non wr w2 [Pt.arr ⟨sa1, sn1, sc1, aa1, an1, ac1, s1, a1⟩, Pt.arr ⟨sa2, sn2, sc2, aa2, an2, ac2, s2, a2⟩, Pt.row ⟨38, 2, some ⟨_, 0, none⟩, 1, 1, [.slice none 0 0, .slice none 0 0]⟩, Pt.row ⟨38, 2, some ⟨_, 0, none⟩, 1, 1, [.slice none 0 0, .slice none 0 0]⟩]) := (((H1_0.out.alloc 38 2 1 #[.slice none 0 0, .slice none 0 0] rfl (by decide)).alloc 38 2 1 #[.slice none 0 0, .slice none 0 0] rfl (by decide)).arrNew hI hO hq).pick [0, 3, 1, 2] (by decide); simp only [World.size_alloc] at H2_2; clear hreq hI hs ha hO hq; clear p0 p1 p2 p3 p4 p5 p6 yn ym hbl0; obtain ⟨p0, p1, p2, p3, p4, p5, p6⟩ := HSO.out w2 (HBL.out.trans (H2_2.out.belowN.mono HBL.out.size)); have hbl0 : b < w2.heap.size := Nat.lt_of_lt_of_le HBW.out H2_2.out.belowN.size; have yn : ¬ b = w2.heap.size := Nat.ne_of_lt hbl0; have ym : ¬ w2.heap.size = b := (Nat.ne_of_lt hbl0).symm; have x00 := H2_2.out.cell (i := 2) rfl 0 _ rfl; have x01 := H2_2.out.cell (i := 2) rfl 1 _ rfl; have x02 := H2_2.out.frozen (i := 2) rfl 0; have x03 := H2_2.out.frozen (i := 2) rfl 1; have xl0 := (H2_2.out.rlt (i := 2) rfl).1; have xn0 : ¬ _ = w2.heap.size := Nat.ne_of_lt xl0; have xm0 : ¬ w2.heap.size = _ := (Nat.ne_of_lt xl0).symm; have xg0 : ¬ b = _ := Nat.ne_of_lt (Nat.lt_of_lt_of_le HBW.out ((H2_2.out.rlt (i := 2) rfl).2.elim (fun h => h.elim) id)); have xh0 : ¬ _ = b := fun e => xg0 e.symm; have x10 := H2_2.out.cell (i := 3) rfl 0 _ rfl; have x11 := H2_2.out.cell (i := 3) rfl 1 _ rfl; have x12 := H2_2.out.frozen (i := 3) rfl 0; have x13 := H2_2.out.frozen (i := 3) rfl 1; have xl1 := (H2_2.out.rlt (i := 3) rfl).1; have xn1 : ¬ _ = w2.heap.size := Nat.ne_of_lt xl1; have xm1 : ¬ w2.heap.size = _ := (Nat.ne_of_lt xl1).symm; have xg1 : ¬ b = _ := Nat.ne_of_lt (Nat.lt_of_lt_of_le HBW.out ((H2_2.out.rlt (i := 3) rfl).2.elim (fun h => h.elim) id)); have xh1 : ¬ _ = b := fun e => xg1 e.symm; have xb0 := H2_2.out.rne (i := 2) (j := 3) (by decide) rfl rfl; have xb1 := H2_2.out.rne (i := 3) (j := 2) (by decide) rfl rfl; clear H1_0)
            | (have hreq := H1_1; go_at_call 14; (with_reducible refine Calls.mono (CY.out _ H1_1.out.belowN) ?_); rintro e w2 ⟨⟨sa2, sn2, sc2, aa2, an2, ac2, s2, a2⟩, rfl, hI, hs, ha, hO, hq⟩; simp only at hs ha; have HV2 := Lib.hid (And.intro hs ha); simp only [Ar.v]; have H2_1 : Hid (Sp Non wr w2 [Pt.arr ⟨sa1, sn1, sc1, aa1, an1, ac1, s1, a1⟩, Pt.arr ⟨sa2, sn2, sc2, aa2, an2, ac2, s2, a2⟩, Pt.row ⟨38, 2, some ⟨_, 0, none⟩, 1, 1, [.slice none 0 0, .slice none 0 0]⟩]) := (H1_1.out.arrNew hI hO hq).pick [0, 2, 1] (by decide); clear hreq x00 x01 x02 x03 xn0 xm0 xl0 xg0 xh0 hI hs ha hO hq; clear p0 p1 p2 p3 p4 p5 p6 yn ym hbl0; obtain ⟨p0, p1, p2, p3, p4, p5, p6⟩ := HSO.out w2 (HBL.out.trans (H2_1.out.belowN.mono HBL.out.size)); have hbl0 : b < w2.heap.size := Nat.lt_of_lt_of_le HBW.out H2_1.out.belowN.size; have yn : ¬ b = w2.heap.size := Nat.ne_of_lt hbl0; have ym : ¬ w2.heap.size = b := (Nat.ne_of_lt hbl0).symm; have x00 := H2_1.out.cell (i := 2) rfl 0 _ rfl; have x01 := H2_1.out.cell (i := 2) rfl 1 _ rfl; have x02 := H2_1.out.frozen (i := 2) rfl 0; have x03 := H2_1.out.frozen (i := 2) rfl 1; have xl0 := (H2_1.out.rlt (i := 2) rfl).1; have xn0 : ¬ _ = w2.heap.size := Nat.ne_of_lt xl0; have xm0 : ¬ w2.heap.size = _ := (Nat.ne_of_lt xl0).symm; have xg0 : ¬ b = _ := Nat.ne_of_lt (Nat.lt_of_lt_of_le HBW.out ((H2_1.out.rlt (i := 2) rfl).2.elim (fun h => h.elim) id)); have xh0 : ¬ _ = b := fun e => xg0 e.symm; clear H1_1)
            | (have hreq := H1_1; go_at_call 14; (with_reducible refine Calls.mono (CY.out _ (H1_1.out.alloc 38 2 1 #[.slice none 0 0, .slice none 0 0] rfl (by decide)).belowN) ?_); rintro e w2 ⟨⟨sa2, sn2, sc2, aa2, an2, ac2, s2, a2⟩, rfl, hI, hs, ha, hO, hq⟩; simp only at hs ha; have HV2 := Lib.hid (And.intro hs ha); simp only [Ar.v]; have H2_2 : Hid (Sp Non wr w2 [Pt.arr ⟨sa1, sn1, sc1, aa1, an1, ac1, s1, a1⟩, Pt.arr ⟨sa2, sn2, sc2, aa2, an2, ac2, s2, a2⟩, Pt.row ⟨38, 2, some ⟨_, 0, none⟩, 1, 1, [.slice none 0 0, .slice none 0 0]⟩, Pt.row ⟨38, 2, some ⟨_, 0, none⟩, 1, 1, [.slice none 0 0, .slice none 0 0]⟩]) := ((H1_1.out.alloc 38 2 1 #[.slice none 0 0, .slice none 0 0] rfl (by decide)).arrNew hI hO hq).pick [0, 3, 1, 2] (by decide); clear hreq x00 x01 x02 x03 xn0 xm0 xl0 xg0 xh0 hI hs ha hO hq; clear p0 p1 p2 p3 p4 p5 p6 yn ym hbl0; obtain ⟨p0, p1, p2, p3, p4, p5, p6⟩ := HSO.out w2 (HBL.out.trans (H2_2.out.belowN.mono HBL.out.size)); have hbl0 : b < w2.heap.size := Nat.lt_of_lt_of_le HBW.out H2_2.out.belowN.size; have yn : ¬ b = w2.heap.size := Nat.ne_of_lt hbl0; have ym : ¬ w2.heap.size = b := (Nat.ne_of_lt hbl0).symm; have x00 := H2_2.out.cell (i := 2) rfl 0 _ rfl; have x01 := H2_2.out.cell (i := 2) rfl 1 _ rfl; have x02 := H2_2.out.frozen (i := 2) rfl 0; have x03 := H2_2.out.frozen (i := 2) rfl 1; have xl0 := (H2_2.out.rlt (i := 2) rfl).1; have xn0 : ¬ _ = w2.heap.size := Nat.ne_of_lt xl0; have xm0 : ¬ w2.heap.size = _ := (Nat.ne_of_lt xl0).symm; have xg0 : ¬ b = _ := Nat.ne_of_lt (Nat.lt_of_lt_of_le HBW.out ((H2_2.out.rlt (i := 2) rfl).2.elim (fun h => h.elim) id)); have xh0 : ¬ _ = b := fun e => xg0 e.symm; have x10 := H2_2.out.cell (i := 3) rfl 0 _ rfl; have x11 := H2_2.out.cell (i := 3) rfl 1 _ rfl; have x12 := H2_2.out.frozen (i := 3) rfl 0; have x13 := H2_2.out.frozen (i := 3) rfl 1; have xl1 := (H2_2.out.rlt (i := 3) rfl).1; have xn1 : ¬ _ = w2.heap.size := Nat.ne_of_lt xl1; have xm1 : ¬ w2.heap.size = _ := (Nat.ne_of_lt xl1).symm; have xg1 : ¬ b = _ := Nat.ne_of_lt (Nat.lt_of_lt_of_le HBW.out ((H2_2.out.rlt (i := 3) rfl).2.elim (fun h => h.elim) id)); have xh1 : ¬ _ = b := fun e => xg1 e.symm; have xb0 := H2_2.out.rne (i := 2) (j := 3) (by decide) rfl rfl; have xb1 := H2_2.out.rne (i := 3) (j := 2) (by decide) rfl rfl; clear H1_1)
            | (have hreq := H1_2; go_at_call 14; (with_reducible refine Calls.mono (CY.out _ H1_2.out.belowN) ?_); rintro e w2 ⟨⟨sa2, sn2, sc2, aa2, an2, ac2, s2, a2⟩, rfl, hI, hs, ha, hO, hq⟩; simp only at hs ha; have HV2 := Lib.hid (And.intro hs ha); simp only [Ar.v]; have H2_2 : Hid (Sp Non wr w2 [Pt.arr ⟨sa1, sn1, sc1, aa1, an1, ac1, s1, a1⟩, Pt.arr ⟨sa2, sn2, sc2, aa2, an2, ac2, s2, a2⟩, Pt.row ⟨38, 2, some ⟨_, 0, none⟩, 1, 1, [.slice none 0 0, .slice none 0 0]⟩, Pt.row ⟨38, 2, some ⟨_, 0, none⟩, 1, 1, [.slice none 0 0, .slice none 0 0]⟩]) := (H1_2.out.arrNew hI hO hq).pick [0, 3, 1, 2] (by decide); clear hreq x00 x01 x02 x03 xn0 xm0 xl0 xg0 xh0 x10 x11 x12 x13 xn1 xm1 xl1 xg1 xh1 xb0 xb1 hI hs ha hO hq; clear p0 p1 p2 p3 p4 p5 p6 yn ym hbl0; obtain ⟨p0, p1, p2, p3, p4, p5, p6⟩ := HSO.out w2 (HBL.out.trans (H2_2.out.belowN.mono HBL.out.size)); have hbl0 : b < w2.heap.size := Nat.lt_of_lt_of_le HBW.out H2_2.out.belowN.size; have yn : ¬ b = w2.heap.size := Nat.ne_of_lt hbl0; have ym : ¬ w2.heap.size = b := (Nat.ne_of_lt hbl0).symm; have x00 := H2_2.out.cell (i := 2) rfl 0 _ rfl; have x01 := H2_2.out.cell (i := 2) rfl 1 _ rfl; have x02 := H2_2.out.frozen (i := 2) rfl 0; have x03 := H2_2.out.frozen (i := 2) rfl 1; have xl0 := (H2_2.out.rlt (i := 2) rfl).1; have xn0 : ¬ _ = w2.heap.size := Nat.ne_of_lt xl0; have xm0 : ¬ w2.heap.size = _ := (Nat.ne_of_lt xl0).symm; have xg0 : ¬ b = _ := Nat.ne_of_lt (Nat.lt_of_lt_of_le HBW.out ((H2_2.out.rlt (i := 2) rfl).2.elim (fun h => h.elim) id)); have xh0 : ¬ _ = b := fun e => xg0 e.symm; have x10 := H2_2.out.cell (i := 3) rfl 0 _ rfl; have x11 := H2_2.out.cell (i := 3) rfl 1 _ rfl; have x12 := H2_2.out.frozen (i := 3) rfl 0; have x13 := H2_2.out.frozen (i := 3) rfl 1; have xl1 := (H2_2.out.rlt (i := 3) rfl).1; have xn1 : ¬ _ = w2.heap.size := Nat.ne_of_lt xl1; have xm1 : ¬ w2.heap.size = _ := (Nat.ne_of_lt xl1).symm; have xg1 : ¬ b = _ := Nat.ne_of_lt (Nat.lt_of_lt_of_le HBW.out ((H2_2.out.rlt (i := 3) rfl).2.elim (fun h => h.elim) id)); have xh1 : ¬ _ = b := fun e => xg1 e.symm; have xb0 := H2_2.out.rne (i := 2) (j := 3) (by decide) rfl rfl; have xb1 := H2_2.out.rne (i := 3) (j := 2) (by decide) rfl rfl; clear H1_2)
            | (have hreq := H2_0; have CGx := CG.out _ ⟨sa1, sn1, sc1, aa1, an1, ac1, s1, a1⟩ ⟨sa2, sn2, sc2, aa2, an2, ac2, s2, a2⟩ HV1.out.1 HV1.out.2 HV2.out.1 HV2.out.2 (H2_0.out.isA (i := 0) rfl) (H2_0.out.isA (i := 1) rfl); simp only [Ar.v] at CGx; go_at_call 13; (with_reducible refine Calls.mono CGx ?_); rintro e w5 ⟨⟨sa3, sn3, sc3, aa3, an3, ac3, s3, a3⟩, ⟨sa4, sn4, sc4, aa4, an4, ac4, s4, a4⟩, rfl, hq, hs3, ha3, hs4, ha4⟩; simp only at hs3 ha3 hs4 ha4; have HV3 := Lib.hid (And.intro hs3 (And.intro ha3 (And.intro hs4 ha4))); simp only [Ar.v]; have H3_0 : Hid (Sp Non wr w5 [Pt.arr ⟨sa1, sn1, sc1, aa1, an1, ac1, s1, a1⟩, Pt.arr ⟨sa2, sn2, sc2, aa2, an2, ac2, s2, a2⟩, Pt.arr ⟨sa3, sn3, sc3, aa3, an3, ac3, s3, a3⟩, Pt.arr ⟨sa4, sn4, sc4, aa4, an4, ac4, s4, a4⟩]) := (H2_0.out.add hq).pick [0, 1, 2, 3] (by decide); clear hreq CGx hq hs3 ha3 hs4 ha4; clear p0 p1 p2 p3 p4 p5 p6 yn ym hbl0; obtain ⟨p0, p1, p2, p3, p4, p5, p6⟩ := HSO.out w5 (HBL.out.trans (H3_0.out.belowN.mono HBL.out.size)); have hbl0 : b < w5.heap.size := Nat.lt_of_lt_of_le HBW.out H3_0.out.belowN.size; have yn : ¬ b = w5.heap.size := Nat.ne_of_lt hbl0; have ym : ¬ w5.heap.size = b := (Nat.ne_of_lt hbl0).symm; clear H2_0)
            | (have hreq := H2_0; have CGx := CG.out _ ⟨sa1, sn1, sc1, aa1, an1, ac1, s1, a1⟩ ⟨sa2, sn2, sc2, aa2, an2, ac2, s2, a2⟩ HV1.out.1 HV1.out.2 HV2.out.1 HV2.out.2 ((H2_0.out.alloc 38 2 1 #[.slice none 0 0, .slice none 0 0] rfl (by decide)).isA (i := 0) rfl) ((H2_0.out.alloc 38 2 1 #[.slice none 0 0, .slice none 0 0] rfl (by decide)).isA (i := 1) rfl); simp only [Ar.v] at CGx; go_at_call 13; (with_reducible refine Calls.mono CGx ?_); rintro e w5 ⟨⟨sa3, sn3, sc3, aa3, an3, ac3, s3, a3⟩, ⟨sa4, sn4, sc4, aa4, an4, ac4, s4, a4⟩, rfl, hq, hs3, ha3, hs4, ha4⟩; simp only at hs3 ha3 hs4 ha4; have HV3 := Lib.hid (And.intro hs3 (And.intro ha3 (And.intro hs4 ha4))); simp only [Ar.v]; have H3_1 : Hid (Sp Non wr w5 [Pt.arr ⟨sa1, sn1, sc1, aa1, an1, ac1, s1, a1⟩, Pt.arr ⟨sa2, sn2, sc2, aa2, an2, ac2, s2, a2⟩, Pt.arr ⟨sa3, sn3, sc3, aa3, an3, ac3, s3, a3⟩, Pt.arr ⟨sa4, sn4, sc4, aa4, an4, ac4, s4, a4⟩, Pt.row ⟨38, 2, some ⟨_, 0, none⟩, 1, 1, [.slice none 0 0, .slice none 0 0]⟩]) := ((H2_0.out.alloc 38 2 1 #[.slice none 0 0, .slice none 0 0] rfl (by decide)).add hq).pick [0, 1, 3, 4, 2] (by decide); clear hreq CGx hq hs3 ha3 hs4 ha4; clear p0 p1 p2 p3 p4 p5 p6 yn ym hbl0; obtain ⟨p0, p1, p2, p3, p4, p5, p6⟩ := HSO.out w5 (HBL.out.trans (H3_1.out.belowN.mono HBL.out.size)); have hbl0 : b < w5.heap.size := Nat.lt_of_lt_of_le HBW.out H3_1.out.belowN.size; have yn : ¬ b = w5.heap.size := Nat.ne_of_lt hbl0; have ym : ¬ w5.heap.size = b := (Nat.ne_of_lt hbl0).symm; have x00 := H3_1.out.cell (i := 4) rfl 0 _ rfl; have x01 := H3_1.out.cell (i := 4) rfl 1 _ rfl; have x02 := H3_1.out.frozen (i := 4) rfl 0; have x03 := H3_1.out.frozen (i := 4) rfl 1; have xl0 := (H3_1.out.rlt (i := 4) rfl).1; have xn0 : ¬ _ = w5.heap.size := Nat.ne_of_lt xl0; have xm0 : ¬ w5.heap.size = _ := (Nat.ne_of_lt xl0).symm; have xg0 : ¬ b = _ := Nat.ne_of_lt (Nat.lt_of_lt_of_le HBW.out ((H3_1.out.rlt (i := 4) rfl).2.elim (fun h => h.elim) id)); have xh0 : ¬ _ = b := fun e => xg0 e.symm; clear H2_0)
            | (have hreq := H2_0; have CGx := CG.out _ ⟨sa1, sn1, sc1, aa1, an1, ac1, s1, a1⟩ ⟨sa2, sn2, sc2, aa2, an2, ac2, s2, a2⟩ HV1.out.1 HV1.out.2 HV2.out.1 HV2.out.2 (((H2_0.out.alloc 38 2 1 #[.slice none 0 0, .slice none 0 0] rfl (by decide)).alloc 38 2 1 #[.slice none 0 0, .slice none 0 0] rfl (by decide)).isA (i := 0) rfl) (((H2_0.out.alloc 38 2 1 #[.slice none 0 0, .slice none 0 0] rfl (by decide)).alloc 38 2 1 #[.slice none 0 0, .slice none 0 0] rfl (by decide)).isA (i := 1) rfl); simp only [Ar.v] at CGx; go_at_call 13; (with_reducible refine Calls.mono CGx ?_); rintro e w5 ⟨⟨sa3, sn3, sc3, aa3, an3, ac3, s3, a3⟩, ⟨sa4, sn4, sc4, aa4, an4, ac4, s4, a4⟩, rfl, hq, hs3, ha3, hs4, ha4⟩; simp only at hs3 ha3 hs4 ha4; have HV3 := Lib.hid (And.intro hs3 (And.intro ha3 (And.intro hs4 ha4))); simp only [Ar.v]; have H3_2 : Hid (Sp Non wr w5 [Pt.arr ⟨sa1, sn1, sc1, aa1, an1, ac1, s1, a1⟩, Pt.arr ⟨sa2, sn2, sc2, aa2, an2, ac2, s2, a2⟩, Pt.arr ⟨sa3, sn3, sc3, aa3, an3, ac3, s3, a3⟩, Pt.arr ⟨sa4, sn4, sc4, aa4, an4, ac4, s4, a4⟩, Pt.row ⟨38, 2, some ⟨_, 0, none⟩, 1, 1, [.slice none 0 0, .slice none 0 0]⟩, Pt.row ⟨38, 2, some ⟨_, 0, none⟩, 1, 1, [.slice none 0 0, .slice none 0 0]⟩]) := (((H2_0.out.alloc 38 2 1 #[.slice none 0 0, .slice none 0 0] rfl (by decide)).alloc 38 2 1 #[.slice none 0 0, .slice none 0 0] rfl (by decide)).add hq).pick [0, 1, 4, 5, 2, 3] (by decide); simp only [World.size_alloc] at H3_2; clear hreq CGx hq hs3 ha3 hs4 ha4; clear p0 p1 p2 p3 p4 p5 p6 yn ym hbl0; obtain ⟨p0, p1, p2, p3, p4, p5, p6⟩ := HSO.out w5 (HBL.out.trans (H3_2.out.belowN.mono HBL.out.size)); have hbl0 : b < w5.heap.size := Nat.lt_of_lt_of_le HBW.out H3_2.out.belowN.size; have yn : ¬ b = w5.heap.size := Nat.ne_of_lt hbl0; have ym : ¬ w5.heap.size = b := (Nat.ne_of_lt hbl0).symm; have x00 := H3_2.out.cell (i := 4) rfl 0 _ rfl; have x01 := H3_2.out.cell (i := 4) rfl 1 _ rfl; have x02 := H3_2.out.frozen (i := 4) rfl 0; have x03 := H3_2.out.frozen (i := 4) rfl 1; have xl0 := (H3_2.out.rlt (i := 4) rfl).1; have xn0 : ¬ _ = w5.heap.size := Nat.ne_of_lt xl0; have xm0 : ¬ w5.heap.size = _ := (Nat.ne_of_lt xl0).symm; have xg0 : ¬ b = _ := Nat.ne_of_lt (Nat.lt_of_lt_of_le HBW.out ((H3_2.out.rlt (i := 4) rfl).2.elim (fun h => h.elim) id)); have xh0 : ¬ _ = b := fun e => xg0 e.symm; have x10 := H3_2.out.cell (i := 5) rfl 0 _ rfl; have x11 := H3_2.out.cell (i := 5) rfl 1 _ rfl; have x12 := H3_2.out.frozen (i := 5) rfl 0; have x13 := H3_2.out.frozen (i := 5) rfl 1; have xl1 := (H3_2.out.rlt (i := 5) rfl).1; have xn1 : ¬ _ = w5.heap.size := Nat.ne_of_lt xl1; have xm1 : ¬ w5.heap.size = _ := (Nat.ne_of_lt xl1).symm; have xg1 : ¬ b = _ := Nat.ne_of_lt (Nat.lt_of_lt_of_le HBW.out ((H3_2.out.rlt (i := 5) rfl).2.elim (fun h => h.elim) id)); have xh1 : ¬ _ = b := fun e => xg1 e.symm; have xb0 := H3_2.out.rne (i := 4) (j := 5) (by decide) rfl rfl; have xb1 := H3_2.out.rne (i := 5) (j := 4) (by decide) rfl rfl; clear H2_0)
            | (have hreq := H2_1; have CGx := CG.out _ ⟨sa1, sn1, sc1, aa1, an1, ac1, s1, a1⟩ ⟨sa2, sn2, sc2, aa2, an2, ac2, s2, a2⟩ HV1.out.1 HV1.out.2 HV2.out.1 HV2.out.2 (H2_1.out.isA (i := 0) rfl) (H2_1.out.isA (i := 1) rfl); simp only [Ar.v] at CGx; go_at_call 13; (with_reducible refine Calls.mono CGx ?_); rintro e w5 ⟨⟨sa3, sn3, sc3, aa3, an3, ac3, s3, a3⟩, ⟨sa4, sn4, sc4, aa4, an4, ac4, s4, a4⟩, rfl, hq, hs3, ha3, hs4, ha4⟩; simp only at hs3 ha3 hs4 ha4; have HV3 := Lib.hid (And.intro hs3 (And.intro ha3 (And.intro hs4 ha4))); simp only [Ar.v]; have H3_1 : Hid (Sp Non wr w5 [Pt.arr ⟨sa1, sn1, sc1, aa1, an1, ac1, s1, a1⟩, Pt.arr ⟨sa2, sn2, sc2, aa2, an2, ac2, s2, a2⟩, Pt.arr ⟨sa3, sn3, sc3, aa3, an3, ac3, s3, a3⟩, Pt.arr ⟨sa4, sn4, sc4, aa4, an4, ac4, s4, a4⟩, Pt.row ⟨38, 2, some ⟨_, 0, none⟩, 1, 1, [.slice none 0 0, .slice none 0 0]⟩]) := (H2_1.out.add hq).pick [0, 1, 3, 4, 2] (by decide); clear hreq x00 x01 x02 x03 xn0 xm0 xl0 xg0 xh0 CGx hq hs3 ha3 hs4 ha4; clear p0 p1 p2 p3 p4 p5 p6 yn ym hbl0; obtain ⟨p0, p1, p2, p3, p4, p5, p6⟩ := HSO.out w5 (HBL.out.trans (H3_1.out.belowN.mono HBL.out.size)); have hbl0 : b < w5.heap.size := Nat.lt_of_lt_of_le HBW.out H3_1.out.belowN.size; have yn : ¬ b = w5.heap.size := Nat.ne_of_lt hbl0; have ym : ¬ w5.heap.size = b := (Nat.ne_of_lt hbl0).symm; have x00 := H3_1.out.cell (i := 4) rfl 0 _ rfl; have x01 := H3_1.out.cell (i := 4) rfl 1 _ rfl; have x02 := H3_1.out.frozen (i := 4) rfl 0; have x03 := H3_1.out.frozen (i := 4) rfl 1; have xl0 := (H3_1.out.rlt (i := 4) rfl).1; have xn0 : ¬ _ = w5.heap.size := Nat.ne_of_lt xl0; have xm0 : ¬ w5.heap.size = _ := (Nat.ne_of_lt xl0).symm; have xg0 : ¬ b = _ := Nat.ne_of_lt (Nat.lt_of_lt_of_le HBW.out ((H3_1.out.rlt (i := 4) rfl).2.elim (fun h => h.elim) id)); have xh0 : ¬ _ = b := fun e => xg0 e.symm; clear H2_1)
            | (have hreq := H2_1; have CGx := CG.out _ ⟨sa1, sn1, sc1, aa1, an1, ac1, s1, a1⟩ ⟨sa2, sn2, sc2, aa2, an2, ac2, s2, a2⟩ HV1.out.1 HV1.out.2 HV2.out.1 HV2.out.2 ((H2_1.out.alloc 38 2 1 #[.slice none 0 0, .slice none 0 0] rfl (by decide)).isA (i := 0) rfl) ((H2_1.out.alloc 38 2 1 #[.slice none 0 0, .slice none 0 0] rfl (by decide)).isA (i := 1) rfl); simp only [Ar.v] at CGx; go_at_call 13; (with_reducible refine Calls.mono CGx ?_); rintro e w5 ⟨⟨sa3, sn3, sc3, aa3, an3, ac3, s3, a3⟩, ⟨sa4, sn4, sc4, aa4, an4, ac4, s4, a4⟩, rfl, hq, hs3, ha3, hs4, ha4⟩; simp only at hs3 ha3 hs4 ha4; have HV3 := Lib.hid (And.intro hs3 (And.intro ha3 (And.intro hs4 ha4))); simp only [Ar.v]; have H3_2 : Hid (Sp Non wr w5 [Pt.arr ⟨sa1, sn1, sc1, aa1, an1, ac1, s1, a1⟩, Pt.arr ⟨sa2, sn2, sc2, aa2, an2, ac2, s2, a2⟩, Pt.arr ⟨sa3, sn3, sc3, aa3, an3, ac3, s3, a3⟩, Pt.arr ⟨sa4, sn4, sc4, aa4, an4, ac4, s4, a4⟩, Pt.row ⟨38, 2, some ⟨_, 0, none⟩, 1, 1, [.slice none 0 0, .slice none 0 0]⟩, Pt.row ⟨38, 2, some ⟨_, 0, none⟩, 1, 1, [.slice none 0 0, .slice none 0 0]⟩]) := ((H2_1.out.alloc 38 2 1 #[.slice none 0 0, .slice none 0 0] rfl (by decide)).add hq).pick [0, 1, 4, 5, 2, 3] (by decide); clear hreq x00 x01 x02 x03 xn0 xm0 xl0 xg0 xh0 CGx hq hs3 ha3 hs4 ha4; clear p0 p1 p2 p3 p4 p5 p6 yn ym hbl0; obtain ⟨p0, p1, p2, p3, p4, p5, p6⟩ := HSO.out w5 (HBL.out.trans (H3_2.out.belowN.mono HBL.out.size)); have hbl0 : b < w5.heap.size := Nat.lt_of_lt_of_le HBW.out H3_2.out.belowN.size; have yn : ¬ b = w5.heap.size := Nat.ne_of_lt hbl0; have ym : ¬ w5.heap.size = b := (Nat.ne_of_lt hbl0).symm; have x00 := H3_2.out.cell (i := 4) rfl 0 _ rfl; have x01 := H3_2.out.cell (i := 4) rfl 1 _ rfl; have x02 := H3_2.out.frozen (i := 4) rfl 0; have x03 := H3_2.out.frozen (i := 4) rfl 1; have xl0 := (H3_2.out.rlt (i := 4) rfl).1; have xn0 : ¬ _ = w5.heap.size := Nat.ne_of_lt xl0; have xm0 : ¬ w5.heap.size = _ := (Nat.ne_of_lt xl0).symm; have xg0 : ¬ b = _ := Nat.ne_of_lt (Nat.lt_of_lt_of_le HBW.out ((H3_2.out.rlt (i := 4) rfl).2.elim (fun h => h.elim) id)); have xh0 : ¬ _ = b := fun e => xg0 e.symm; have x10 := H3_2.out.cell (i := 5) rfl 0 _ rfl; have x11 := H3_2.out.cell (i := 5) rfl 1 _ rfl; have x12 := H3_2.out.frozen (i := 5) rfl 0; have x13 := H3_2.out.frozen (i := 5) rfl 1; have xl1 := (H3_2.out.rlt (i := 5) rfl).1; have xn1 : ¬ _ = w5.heap.size := Nat.ne_of_lt xl1; have xm1 : ¬ w5.heap.size = _ := (Nat.ne_of_lt xl1).symm; have xg1 : ¬ b = _ := Nat.ne_of_lt (Nat.lt_of_lt_of_le HBW.out ((H3_2.out.rlt (i := 5) rfl).2.elim (fun h => h.elim) id)); have xh1 : ¬ _ = b := fun e => xg1 e.symm; have xb0 := H3_2.out.rne (i := 4) (j := 5) (by decide) rfl rfl; have xb1 := H3_2.out.rne (i := 5) (j := 4) (by decide) rfl rfl; clear H2_1)
            | (have hreq := H2_2; have CGx := CG.out _ ⟨sa1, sn1, sc1, aa1, an1, ac1, s1, a1⟩ ⟨sa2, sn2, sc2, aa2, an2, ac2, s2, a2⟩ HV1.out.1 HV1.out.2 HV2.out.1 HV2.out.2 (H2_2.out.isA (i := 0) rfl) (H2_2.out.isA (i := 1) rfl); simp only [Ar.v] at CGx; go_at_call 13; (with_reducible refine Calls.mono CGx ?_); rintro e w5 ⟨⟨sa3, sn3, sc3, aa3, an3, ac3, s3, a3⟩, ⟨sa4, sn4, sc4, aa4, an4, ac4, s4, a4⟩, rfl, hq, hs3, ha3, hs4, ha4⟩; simp only at hs3 ha3 hs4 ha4; have HV3 := Lib.hid (And.intro hs3 (And.intro ha3 (And.intro hs4 ha4))); simp only [Ar.v]; have H3_2 : Hid (Sp Non wr w5 [Pt.arr ⟨sa1, sn1, sc1, aa1, an1, ac1, s1, a1⟩, Pt.arr ⟨sa2, sn2, sc2, aa2, an2, ac2, s2, a2⟩, Pt.arr ⟨sa3, sn3, sc3, aa3, an3, ac3, s3, a3⟩, Pt.arr ⟨sa4, sn4, sc4, aa4, an4, ac4, s4, a4⟩, Pt.row ⟨38, 2, some ⟨_, 0, none⟩, 1, 1, [.slice none 0 0, .slice none 0 0]⟩, Pt.row ⟨38, 2, some ⟨_, 0, none⟩, 1, 1, [.slice none 0 0, .slice none 0 0]⟩]) := (H2_2.out.add hq).pick [0, 1, 4, 5, 2, 3] (by decide); clear hreq x00 x01 x02 x03 xn0 xm0 xl0 xg0 xh0 x10 x11 x12 x13 xn1 xm1 xl1 xg1 xh1 xb0 xb1 CGx hq hs3 ha3 hs4 ha4; clear p0 p1 p2 p3 p4 p5 p6 yn ym hbl0; obtain ⟨p0, p1, p2, p3, p4, p5, p6⟩ := HSO.out w5 (HBL.out.trans (H3_2.out.belowN.mono HBL.out.size)); have hbl0 : b < w5.heap.size := Nat.lt_of_lt_of_le HBW.out H3_2.out.belowN.size; have yn : ¬ b = w5.heap.size := Nat.ne_of_lt hbl0; have ym : ¬ w5.heap.size = b := (Nat.ne_of_lt hbl0).symm; have x00 := H3_2.out.cell (i := 4) rfl 0 _ rfl; have x01 := H3_2.out.cell (i := 4) rfl 1 _ rfl; have x02 := H3_2.out.frozen (i := 4) rfl 0; have x03 := H3_2.out.frozen (i := 4) rfl 1; have xl0 := (H3_2.out.rlt (i := 4) rfl).1; have xn0 : ¬ _ = w5.heap.size := Nat.ne_of_lt xl0; have xm0 : ¬ w5.heap.size = _ := (Nat.ne_of_lt xl0).symm; have xg0 : ¬ b = _ := Nat.ne_of_lt (Nat.lt_of_lt_of_le HBW.out ((H3_2.out.rlt (i := 4) rfl).2.elim (fun h => h.elim) id)); have xh0 : ¬ _ = b := fun e => xg0 e.symm; have x10 := H3_2.out.cell (i := 5) rfl 0 _ rfl; have x11 := H3_2.out.cell (i := 5) rfl 1 _ rfl; have x12 := H3_2.out.frozen (i := 5) rfl 0; have x13 := H3_2.out.frozen (i := 5) rfl 1; have xl1 := (H3_2.out.rlt (i := 5) rfl).1; have xn1 : ¬ _ = w5.heap.size := Nat.ne_of_lt xl1; have xm1 : ¬ w5.heap.size = _ := (Nat.ne_of_lt xl1).symm; have xg1 : ¬ b = _ := Nat.ne_of_lt (Nat.lt_of_lt_of_le HBW.out ((H3_2.out.rlt (i := 5) rfl).2.elim (fun h => h.elim) id)); have xh1 : ¬ _ = b := fun e => xg1 e.symm; have xb0 := H3_2.out.rne (i := 4) (j := 5) (by decide) rfl rfl; have xb1 := H3_2.out.rne (i := 5) (j := 4) (by decide) rfl rfl; clear H2_2)
            ); (try dsimp only)))
          all_goals
            go_wp2_with fail
            go_meet
            first
            | (refine ⟨_, _, ⟨sa1, sn1, sc1, aa1, an1, ac1, s1, a1⟩, ⟨sa2, sn2, sc2, aa2, an2, ac2, s2, a2⟩, ⟨sa3, sn3, sc3, aa3, an3, ac3, s3, a3⟩, ⟨sa4, sn4, sc4, aa4, an4, ac4, s4, a4⟩, rfl, rfl, Lib.hid ?_, HV3.out⟩; have hh := (((H3_0.out).alloc 38 2 1 #[.slice sa3 sn3 sc3, .slice aa3 an3 ac3] rfl (by decide)).alloc 38 2 1 #[.slice sa4 sn4 sc4, .slice aa4 an4 ac4] rfl (by decide)).pick [0, 1, 2, 3, 4, 5] (by decide); (try simp only [World.size_alloc, World.size_setCell, World.size_drew] at hh); (with_reducible refine Sp.as hh ?_); rfl)
            | (refine ⟨_, _, ⟨sa1, sn1, sc1, aa1, an1, ac1, s1, a1⟩, ⟨sa2, sn2, sc2, aa2, an2, ac2, s2, a2⟩, ⟨sa3, sn3, sc3, aa3, an3, ac3, s3, a3⟩, ⟨sa4, sn4, sc4, aa4, an4, ac4, s4, a4⟩, rfl, rfl, Lib.hid ?_, HV3.out⟩; have hh := (((H3_0.out).alloc 38 2 1 #[.slice sa4 sn4 sc4, .slice aa4 an4 ac4] rfl (by decide)).alloc 38 2 1 #[.slice sa3 sn3 sc3, .slice aa3 an3 ac3] rfl (by decide)).pick [0, 1, 2, 3, 5, 4] (by decide); (try simp only [World.size_alloc, World.size_setCell, World.size_drew] at hh); (with_reducible refine Sp.as hh ?_); rfl)
            | (refine ⟨_, _, ⟨sa1, sn1, sc1, aa1, an1, ac1, s1, a1⟩, ⟨sa2, sn2, sc2, aa2, an2, ac2, s2, a2⟩, ⟨sa3, sn3, sc3, aa3, an3, ac3, s3, a3⟩, ⟨sa4, sn4, sc4, aa4, an4, ac4, s4, a4⟩, rfl, rfl, Lib.hid ?_, HV3.out⟩; have hh := ((((H3_1.out).put (i := 4) rfl 0 (.slice sa3 sn3 sc3)).put (i := 4) rfl 1 (.slice aa3 an3 ac3)).alloc 38 2 1 #[.slice sa4 sn4 sc4, .slice aa4 an4 ac4] rfl (by decide)).pick [0, 1, 2, 3, 4, 5] (by decide); (try simp only [World.size_alloc, World.size_setCell, World.size_drew] at hh); (with_reducible refine Sp.as hh ?_); rfl)
            | (refine ⟨_, _, ⟨sa1, sn1, sc1, aa1, an1, ac1, s1, a1⟩, ⟨sa2, sn2, sc2, aa2, an2, ac2, s2, a2⟩, ⟨sa3, sn3, sc3, aa3, an3, ac3, s3, a3⟩, ⟨sa4, sn4, sc4, aa4, an4, ac4, s4, a4⟩, rfl, rfl, Lib.hid ?_, HV3.out⟩; have hh := ((((H3_1.out).alloc 38 2 1 #[.slice sa4 sn4 sc4, .slice aa4 an4 ac4] rfl (by decide)).put (i := 4) rfl 0 (.slice sa3 sn3 sc3)).put (i := 4) rfl 1 (.slice aa3 an3 ac3)).pick [0, 1, 2, 3, 4, 5] (by decide); (try simp only [World.size_alloc, World.size_setCell, World.size_drew] at hh); (with_reducible refine Sp.as hh ?_); rfl)
            | (refine ⟨_, _, ⟨sa1, sn1, sc1, aa1, an1, ac1, s1, a1⟩, ⟨sa2, sn2, sc2, aa2, an2, ac2, s2, a2⟩, ⟨sa3, sn3, sc3, aa3, an3, ac3, s3, a3⟩, ⟨sa4, sn4, sc4, aa4, an4, ac4, s4, a4⟩, rfl, rfl, Lib.hid ?_, HV3.out⟩; have hh := ((((H3_1.out).put (i := 4) rfl 0 (.slice sa4 sn4 sc4)).put (i := 4) rfl 1 (.slice aa4 an4 ac4)).alloc 38 2 1 #[.slice sa3 sn3 sc3, .slice aa3 an3 ac3] rfl (by decide)).pick [0, 1, 2, 3, 5, 4] (by decide); (try simp only [World.size_alloc, World.size_setCell, World.size_drew] at hh); (with_reducible refine Sp.as hh ?_); rfl)
            | (refine ⟨_, _, ⟨sa1, sn1, sc1, aa1, an1, ac1, s1, a1⟩, ⟨sa2, sn2, sc2, aa2, an2, ac2, s2, a2⟩, ⟨sa3, sn3, sc3, aa3, an3, ac3, s3, a3⟩, ⟨sa4, sn4, sc4, aa4, an4, ac4, s4, a4⟩, rfl, rfl, Lib.hid ?_, HV3.out⟩; have hh := ((((H3_1.out).alloc 38 2 1 #[.slice sa3 sn3 sc3, .slice aa3 an3 ac3] rfl (by decide)).put (i := 4) rfl 0 (.slice sa4 sn4 sc4)).put (i := 4) rfl 1 (.slice aa4 an4 ac4)).pick [0, 1, 2, 3, 5, 4] (by decide); (try simp only [World.size_alloc, World.size_setCell, World.size_drew] at hh); (with_reducible refine Sp.as hh ?_); rfl)
            | (refine ⟨_, _, ⟨sa1, sn1, sc1, aa1, an1, ac1, s1, a1⟩, ⟨sa2, sn2, sc2, aa2, an2, ac2, s2, a2⟩, ⟨sa3, sn3, sc3, aa3, an3, ac3, s3, a3⟩, ⟨sa4, sn4, sc4, aa4, an4, ac4, s4, a4⟩, rfl, rfl, Lib.hid ?_, HV3.out⟩; have hh := (((((H3_2.out).put (i := 4) rfl 0 (.slice sa3 sn3 sc3)).put (i := 4) rfl 1 (.slice aa3 an3 ac3)).put (i := 5) rfl 0 (.slice sa4 sn4 sc4)).put (i := 5) rfl 1 (.slice aa4 an4 ac4)).pick [0, 1, 2, 3, 4, 5] (by decide); (try simp only [World.size_alloc, World.size_setCell, World.size_drew] at hh); (with_reducible refine Sp.as hh ?_); rfl)
            | (refine ⟨_, _, ⟨sa1, sn1, sc1, aa1, an1, ac1, s1, a1⟩, ⟨sa2, sn2, sc2, aa2, an2, ac2, s2, a2⟩, ⟨sa3, sn3, sc3, aa3, an3, ac3, s3, a3⟩, ⟨sa4, sn4, sc4, aa4, an4, ac4, s4, a4⟩, rfl, rfl, Lib.hid ?_, HV3.out⟩; have hh := (((((H3_2.out).put (i := 5) rfl 0 (.slice sa3 sn3 sc3)).put (i := 5) rfl 1 (.slice aa3 an3 ac3)).put (i := 4) rfl 0 (.slice sa4 sn4 sc4)).put (i := 4) rfl 1 (.slice aa4 an4 ac4)).pick [0, 1, 2, 3, 5, 4] (by decide); (try simp only [World.size_alloc, World.size_setCell, World.size_drew] at hh); (with_reducible refine Sp.as hh ?_); rfl)
        case rest =>
          obtain ⟨g8, g9, ⟨sa1, sn1, sc1, aa1, an1, ac1, s1, a1⟩, ⟨sa2, sn2, sc2, aa2, an2, ac2, s2, a2⟩, ⟨sa3, sn3, sc3, aa3, an3, ac3, s3, a3⟩, ⟨sa4, sn4, sc4, aa4, an4, ac4, s4, a4⟩, rfl, rfl, HU, HV⟩ := hcut
          simp only at HU HV
          obtain ⟨U1, hU⟩ : ∃ z : World, z = wc := ⟨_, rfl⟩
          subst hU
          clear p0 p1 p2 p3 p4 p5 p6 yn ym hbl0 CX CY CG H1
          have a0 := HU.out.cell (i := 4) rfl 0 _ rfl
          have a1' := HU.out.cell (i := 4) rfl 1 _ rfl
          have b0 := HU.out.cell (i := 5) rfl 0 _ rfl
          have b1 := HU.out.cell (i := 5) rfl 1 _ rfl
          have CE := Lib.hid (eq4_any (HU.out.isA (i := 2) rfl) (HU.out.isA (i := 3) rfl))
          simp only [Ar.v] at CE
          rw [decide_eq_true ⟨HV.out.1.trans HV.out.2.2.1.symm, HV.out.2.1.trans HV.out.2.2.2.symm⟩] at CE
          go_wp2_with fail
          refine CE.out.mono ?_; rintro e w7 ⟨rfl, hb7⟩
          have H7 := Lib.hid (HU.out.via hb7)
          clear hb7 HU CE a0 a1' b0 b1
          have OK3 : Hid (ArOk4 ⟨sa3, sn3, sc3, aa3, an3, ac3, s3, a3⟩) := by
            have f := HFO.out
            have fl := HFT.out.giv kk op (s := s) (a := a) (t := t) (b := b') (by rw [show s.length = sn from HIX.out.shp.len]; exact f.1) (by rw [show a.length = an from HIX.out.ats.len]; exact f.2.1) (by rw [show t.length = tn from HIY.out.shp.len]; exact f.2.2.1) (by rw [show b'.length = bn from HIY.out.ats.len]; exact f.2.2.2)
            rw [HSS.out, HAA.out] at fl
            have h := H7.out.isA (i := 2) rfl
            exact ⟨by have := h.shp.len; simp only at this; rw [← this, show s3 = S from HV.out.1]; exact fl.1, by have := h.ats.len; simp only at this; rw [← this, show a3 = A from HV.out.2.1]; exact fl.2, h.shp.rng, h.ats.rng⟩
          obtain ⟨w8, HW8⟩ : ∃ z, Hid (w7.heap.size = z) := ⟨_, rfl⟩
          obtain ⟨W8, HX8⟩ : ∃ z, Hid (w7.alloc (.cells #[.slice sa3 sn3 sc3, .slice aa3 an3 ac3] 38) = z) := ⟨_, rfl⟩
          have h8 := (H7.out.alloc 38 2 1 #[.slice sa3 sn3 sc3, .slice aa3 an3 ac3] rfl (by decide)).pick [2, 6] (by decide)
          rw [HX8.out, HW8.out] at h8
          have H8_ := h8
          try simp only [List.cons_append, List.nil_append, List.set_cons_zero, List.set_cons_succ, List.map_cons, List.map_nil, List.getD_cons_zero, List.getD_cons_succ, World.size_alloc] at H8_
          have H8 := Lib.hid H8_
          clear H8_
          have H9_ := H8.out.split (i := 0) rfl
          try simp only [List.cons_append, List.nil_append, List.set_cons_zero, List.set_cons_succ, List.map_cons, List.map_nil, List.getD_cons_zero, List.getD_cons_succ, World.size_alloc] at H9_
          have H9 := Lib.hid H9_
          clear H9_
          have h10 : Sp Non wr W8 (([rowS ⟨sa3, sn3, sc3, aa3, an3, ac3, s3, a3⟩, rowA ⟨sa3, sn3, sc3, aa3, an3, ac3, s3, a3⟩, ⟨38, 2, some ⟨w8, 0, none⟩, 1, 1, [.slice sa3 sn3 sc3, .slice aa3 an3 ac3]⟩] : List Rw).map Pt.row) := by
            refine (H9.out.pick [2, 3, 1] (by decide)).mapW _ rfl fun i A B hA hB F hF => ?_
            match i with
            | 0 => cases hA; cases hB; exact hF.2
            | 1 => cases hA; cases hB; exact hF.2
            | 2 => cases hA; cases hB; exact hF
            | i + 3 => simp at hA
          obtain ⟨R5, HR5⟩ : ∃ z, Hid (putR R [(42, 1, 0), (42, 2, 0), (44, 1, 0)] [rowS ⟨sa3, sn3, sc3, aa3, an3, ac3, s3, a3⟩, rowA ⟨sa3, sn3, sc3, aa3, an3, ac3, s3, a3⟩, ⟨38, 2, some ⟨w8, 0, none⟩, 1, 1, [.slice sa3 sn3 sc3, .slice aa3 an3 ac3]⟩] = z) := ⟨_, rfl⟩
          have hnd : ([(42, 1, 0), (42, 2, 0), (44, 1, 0)] : List (Nat × Nat × Nat)).Nodup := by simp
          have h11 := HH.out.ofSp h10 [(42, 1, 0), (42, 2, 0), (44, 1, 0)] hnd rfl
          rw [HR5.out] at h11
          have r0 : R5 (42, 1, 0) = rowS ⟨sa3, sn3, sc3, aa3, an3, ac3, s3, a3⟩ := by rw [← HR5.out]; exact putR_at 0 hnd rfl rfl
          have r1 : R5 (42, 2, 0) = rowA ⟨sa3, sn3, sc3, aa3, an3, ac3, s3, a3⟩ := by rw [← HR5.out]; exact putR_at 1 hnd rfl rfl
          have r2 : R5 (44, 1, 0) = ⟨38, 2, some ⟨w8, 0, none⟩, 1, 1, [.slice sa3 sn3 sc3, .slice aa3 an3 ac3]⟩ := by rw [← HR5.out]; exact putR_at 2 hnd rfl rfl
          have rN : ∀ t : Nat × Nat × Nat, t.1 ≠ 42 → t.1 ≠ 44 → R5 t = R t := fun t h1 h2 => by
            rw [← HR5.out]
            refine putR_ne fun hm => ?_
            simp only [List.mem_cons, List.not_mem_nil, or_false] at hm
            rcases hm with e | e | e <;> rw [e] at h1 h2 <;> simp at h1 h2
          have hmu0 := HMU.out
          have CT := Lib.hid (takeArrays4_any (p := 42) (q := (44, 1, 0)) (N := 1) (la := some ⟨w8, 0, none⟩) (lc := 1) h11 (HBK.out.congr (fun t ht => rN t (by omega) (by omega))) (by simp) (by simp) (by rw [r2, show List.range 1 = [0] from rfl, List.flatMap_singleton, r0, r1]; rfl)
            (fun j hj => by
              obtain rfl : j = 0 := by omega
              rw [r0, r1]
              exact ⟨⟨_, _, _, _, OK3.out.b1, rfl⟩, ⟨_, _, _, _, OK3.out.b2, rfl⟩⟩) (by omega) (by omega))
          have RN := Lib.hid rN
          have B8 : Hid (Below w.heap.size w W8) := HBL.out.trans (H8.out.belowN.mono HBL.out.size)
          have a0 := H7.out.cell (i := 4) rfl 0 _ rfl
          have a1' := H7.out.cell (i := 4) rfl 1 _ rfl
          clear h8 H8 H9 h10 h11 hnd r0 r1 r2 rN hmu0
          go_wp2_with fail
          rw [HX8.out, HW8.out]
          refine CT.out.mono ?_; rintro e w9 ⟨rfl, K6, L6, mu6, R6, h6, b6, hN6, hB6, hm6, hm6'⟩
          have H6 := Lib.hid h6
          have BK6 := Lib.hid b6
          have B9 := Lib.hid (B8.out.trans hB6)
          have HQ6 : Hid (Qt R6 (bb + 1) n5 mq va wa nm (2 * i)) := HQT.out.congr2 (Nat.le_refl _) (fun t ht => (hN6 t (by omega) (by omega) (by omega)).trans (RN.out t (by omega) (by omega))) (fun a j hj => (hN6 _ (by simp) (by simp) (by simp)).trans (RN.out _ (by simp) (by simp)))
          have HM6 : Hid (mu6 ≤ (i + 1 : Nat) * 136458528) := by
            have := HMU.out.1
            show _ ≤ _
            push_cast
            omega
          have hmq : mq ≤ 2305843009213693952 := by have := HMU.out.2; omega
          have CW := Lib.hid (allWhole4_any h6 b6)
          have CAG := Lib.hid (again8_any HPK.out h6 HQ6.out HFT.out hmq (o := ⟨kk, op, nn, ⟨sa, sn, sc, aa, an, ac, s, a⟩, ⟨ta, tn, tc, ba, bn, bc, t, b'⟩⟩) (HIX.out.below B9.out (Nat.le_refl _)) (HIY.out.below B9.out (Nat.le_refl _)) HFO.out)
          simp only [Opv.cells] at CAG
          obtain ⟨p0, p1, p2, p3, p4, p5, p6⟩ := HSO.out w9 B9.out
          clear h6 b6 hN6 hB6 hm6 hm6' hmq CT a0 a1'
          have HEND : Hid (∀ wx, AgP w.heap.size w9 R6 (bb + 1) (2 * i) mq wx → FrQ w bb (bb + 1) (i + 1) wx) := fun wx ⟨n', mu', va', wa', nm', R', k1, k2, k3, k4, k5⟩ =>
            ⟨R', K6, L6, n', mu6, mu', va', wa', nm', k1, BK6.out.congr (fun t ht => k3 t (by omega) (by omega) (by omega) (by omega) (by omega) (by omega)), k2.congr2 (by omega) (fun _ _ => rfl) (fun _ _ _ => rfl), B9.out.trans k4, HM6.out, by
              have := HMU.out.2
              push_cast
              omega⟩
          by_cases h64 : (i : Int) % 64 = 0
          · have h64' : ((i : Int) % 64 == 0) = true := by simpa using h64
            go_wp2_with fail
            refine CW.out.mono ?_; rintro e w5 ⟨rfl, hw5⟩
            have hw5' := hw5.symm
            subst hw5'
            go_wp2_with fail
            refine CAG.out.mono ?_; rintro e w10 ⟨rfl, hag⟩
            have HNEW := Lib.hid (HEND.out w10 hag)
            clear hag p0 p1 p2 p3 p4 p5 p6
            go_wp2
            go_roundw
            case rel => exact ⟨i + 1, by omega, by go_num, HNEW⟩
            case measure => simp [RowKit.intOf]; omega
          · have h64' : ((i : Int) % 64 == 0) = false := by simpa using h64
            go_wp2_with fail
            refine CAG.out.mono ?_; rintro e w10 ⟨rfl, hag⟩
            have HNEW := Lib.hid (HEND.out w10 hag)
            clear hag p0 p1 p2 p3 p4 p5 p6
            go_wp2
            go_roundw
            case rel => exact ⟨i + 1, by omega, by go_num, HNEW⟩
            case measure => simp [RowKit.intOf]; omega
      · have hge : (N : Int) ≤ i := by omega
        obtain ⟨R, K, L, n5, mu, mq, va, wa, nm, h1, b1, q1, hB1, hmu, hmq⟩ := HF.out
        have CW := Lib.hid (allWhole4_any h1 b1)
        have CU := Lib.hid (untouched4_any h1 q1)
        have HBL := Lib.hid hB1
        have HBS := Lib.hid h1.base
        clear h1 b1 q1 hB1 hmu hmq HF
        go_wp2_with fail
        refine CW.out.mono ?_; rintro e w5 ⟨rfl, hw5⟩
        have hw5' := hw5.symm
        subst hw5'
        go_wp2_with fail
        refine CU.out.mono ?_; rintro e w6 ⟨rfl, hb6⟩
        have HE := Lib.hid (HBL.out.trans hb6)
        clear hb6
        go_wp2
        go_ret
        exact RetB.mk rfl HE.out
end
end Go.Proofs.Ytoippfoeghjdoaa

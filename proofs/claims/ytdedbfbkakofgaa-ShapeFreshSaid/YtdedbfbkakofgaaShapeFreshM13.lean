/- The hands of layer 2 (abacuslaw2): listKept; many lists that lie in the hands, read as such. -/
import Derived.Test.YtdedbfbkakofgaaShapeFreshM12
import Derived.Test.YtdedbfbkakofgaaShapeFreshM11
namespace Go.Proofs.Ytdedbfbkakofgaa
open Go.RowKit Go.Lib
set_option linter.unusedVariables false
set_option linter.unusedSimpArgs false
attribute [local go_sem] alloc_drewN setCell_drewN
section
variable {base : Nat} {w : World} {R : Nat × Nat × Nat → Rw} {o hb : Nat}
theorem ls_laid {w : World} {base : Nat} {R : Nat × Nat × Nat → Rw} (h : Hold base w R) {t : Nat × Nat × Nat} {E : TypeId} {g d : Nat} {s : List Int} {f : Nat → Int} (e : R t = ⟨E, 1, some ⟨g, 0, none⟩, d, d, (mkd f s d).map (Value.int .i64)⟩) (hd : s.length ≤ d)
    (hb : s.length * 8 ≤ 140737488351232) (hr : ∀ i, -9223372036854775808 ≤ s.getD i 0 ∧ s.getD i 0 ≤ 9223372036854775807) : Ls w (some ⟨g, 0, none⟩) s.length d s := by
  have ho := h.own t
  rw [e] at ho
  exact ls_of_full ho hd (mkd_take f hd) hb hr
theorem ls_one2 (w : World) (T : TypeId) (z : Int) (hz : -9223372036854775808 ≤ z ∧ z ≤ 9223372036854775807) : Ls (w.alloc (.cells #[.int .i64 z] T)) (some ⟨w.heap.size, 0, none⟩) 1 1 [z] := by
  have h := ls_alloc w [z] T (by simp) (fun i => by cases i with | zero => exact hz | succ k => simp [List.getD])
  simpa using h
theorem eqints_self {w : World} {a1 a2 : Option Addr} {n1 c1 n2 c2 : Nat} {s : List Int} (h1 : Ls w a1 n1 c1 s) (h2 : Ls w a2 n2 c2 s) :
    Calls Try.prog 19 #[.slice a1 n1 c1, .slice a2 n2 c2] w (Ret w (.bool true)) := by
  have h := eqints_any h1 h2
  rwa [decide_eq_true rfl] at h
/-- Many lists that lie in the hands. -/
theorem ListI.lss {n og oc : Nat} {w' : World} {zss : List (List Int)} (h : ListI base w R o hb n zss og oc n w') {w0 : World} {la : Option Addr} {lc : Nat} (hL : Lss w0 la n lc zss) : Lss w' (some ⟨og, 0, none⟩) n oc zss := by
  obtain ⟨M', l1, l2, gk, dk, ys, R1, h1, b1, hM, r5, hk, y1, y2, hg, r6, r7, e1, e2, eN, hB⟩ := h
  have hc := h1.cap r5
  refine ⟨hL.len, by omega, hL.big, hc.2.1, fun h0 => ⟨og, 0, rfl, (h1.lt r5).2, fun i hi => ?_⟩⟩
  obtain ⟨lb, lo, -, -, hcs⟩ := hL.mem h0
  obtain ⟨ai, ni, ci, -, hls⟩ := hcs i hi
  have hl := hls.len
  obtain ⟨g1, g2⟩ := hg i hi
  refine ⟨_, _, _, ?_, ls_laid h1 g1 (by omega) (by rw [hl]; exact hls.big) hls.rng⟩
  rw [Nat.zero_add]
  exact h1.cell r5 i _ (hk i hi)
/-- The first i hands are looked through and written over. -/
def KeptI (base : Nat) (w : World) (R1 : Nat × Nat × Nat → Rw) (o n : Nat) (gk dk : Nat → Nat) (i : Nat) (wx : World) : Prop :=
  ∃ R' : Nat × Nat × Nat → Rw, Hold base wx R' ∧ (∀ k, i ≤ k → R' (o, 4, k) = R1 (o, 4, k)) ∧ (∀ k, k < n → ∃ S : List Int, R' (o, 4, k) = ⟨3, 1, some ⟨gk k, 0, none⟩, dk k, dk k, S.map (Value.int .i64)⟩) ∧ (∀ t, (∀ k, t ≠ (o, 4, k)) → R' t = R1 t) ∧ Below base w wx
theorem KeptI.cast {w w1 w2 : World} {R1 : Nat × Nat × Nat → Rw} {n i : Nat} {gk dk : Nat → Nat} (h : KeptI base w R1 o n gk dk i w1) (hb : Below w1.heap.size w1 w2) : KeptI base w R1 o n gk dk i w2 := by
  obtain ⟨R', h1, h2, h3, h4, h5⟩ := h
  exact ⟨R', h1.via hb, h2, h3, h4, h5.trans (hb.mono h1.base)⟩
set_option maxRecDepth 100000 in
set_option maxHeartbeats 6400000 in
theorem listKept2_any {n og oc : Nat} {zss : List (List Int)} {w1 : World} (HI : ListI base w R o hb n zss og oc n w1) {w0 : World} {la : Option Addr} {lc : Nat} (hL0 : Lss w0 la n lc zss) (h0 : w0.heap.size ≤ base) (hb0 : Below base w0 w) (hn : n ≤ 900000) :
    Calls Try.prog 60 #[.pointer (some ⟨hb, 0, none⟩), .slice la n lc] w1 (fun e w' => e = .returned (.bool true) ∧ ∃ M', ManyI base w R o hb M' w') := by
  obtain ⟨M', l1, l2, gk, dk, ys, R1, h1, b1, hM, r5, hk, y1, y2, hg, r6, r7, e1, e2, eN, hB⟩ := HI
  obtain ⟨mo, mc, l3⟩ := b1.many
  have hob := b1.obj
  rw [l3, r5] at hob
  simp only [Rw.v] at hob
  have HC : Hid (∀ wx, Below base w1 wx → Hold base wx R1 → wx.cell? ⟨hb, 3, none⟩ = some (.slice (some ⟨og, 0, none⟩) (n + 2) oc) ∧ wx.cell? ⟨og, n, none⟩ = some (.slice (some ⟨l1, 0, none⟩) 1 1) ∧ wx.cell? ⟨og, n + 1, none⟩ = some (.slice (some ⟨l2, 0, none⟩) 1 1)) := fun wx hb h => ⟨h.cell hob 3 _ rfl, h.cell r5 n _ y1, h.cell r5 (n + 1) _ y2⟩
  have H1 := Lib.hid h1
  have B1 := Lib.hid b1
  have HM := Lib.hid hM
  have R5 := Lib.hid r5
  have HK := Lib.hid hk
  have HG := Lib.hid hg
  have R6 := Lib.hid (And.intro r6 r7)
  have HE := Lib.hid (And.intro e1 (And.intro e2 (And.intro eN hB)))
  have L3 := Lib.hid l3
  have HOB := Lib.hid hob
  have HL0 := Lib.hid hL0
  have HB0 := Lib.hid (And.intro h0 hb0)
  have hoc := (h1.cap r5).1
  obtain ⟨c3, cn, -⟩ := HC.out w1 (Below.refl _ _) h1
  have z1 : (n : Int) < n + 2 := by omega
  have z2 : (n : Int) + 1 < n + 2 := by omega
  have rone : ∀ x : Int, -9223372036854775808 ≤ x ∧ x ≤ 9223372036854775807 → ∀ i, -9223372036854775808 ≤ [x].getD i 0 ∧ [x].getD i 0 ≤ 9223372036854775807 := fun x hx i => by
    cases i with
    | zero => exact hx
    | succ k => simp [List.getD]
  have CE1 := Lib.hid (eqints_self (((h1.ls (zs := [-7701]) r6 (by omega) (rone _ (by omega)))).via (abal w1 (.cells #[.int .i64 (-7701)] 3))) (ls_one2 w1 3 (-7701) (by omega)))
  have RO := Lib.hid rone
  clear h1 b1 hM r5 hk y1 y2 hg r6 r7 e1 e2 eN hB l3 hob hL0 h0 hb0 rone
  go_enter Try.func60, Try.ntmps60
  go_wp2_with fail
  refine CE1.out.mono ?_; rintro e w2 ⟨rfl, m2, rfl⟩
  have hb2 : Below w1.heap.size w1 ((w1.alloc (.cells #[.int .i64 (-7701)] 3)).drewN m2) := abvia (abal _ _) (adrew _ _)
  obtain ⟨W2, HW2⟩ : ∃ z, Hid ((w1.alloc (.cells #[.int .i64 (-7701)] 3)).drewN m2 = z) := ⟨_, rfl⟩
  rw [HW2.out] at hb2 ⊢
  have H2 := Lib.hid (H1.out.via hb2)
  have HB2 := Lib.hid (hb2.mono H1.out.base)
  obtain ⟨c3', -, cn1⟩ := HC.out W2 HB2.out H2.out
  have CE2 := Lib.hid (eqints_self (((H2.out.ls (zs := [-7702]) R6.out.2 (by omega) (RO.out _ (by omega)))).via (abal W2 (.cells #[.int .i64 (-7702)] 3))) (ls_one2 W2 3 (-7702) (by omega)))
  clear c3 cn hb2
  go_wp2_with fail
  refine CE2.out.mono ?_; rintro e w3 ⟨rfl, m3, rfl⟩
  have hb3 : Below W2.heap.size W2 ((W2.alloc (.cells #[.int .i64 (-7702)] 3)).drewN m3) := abvia (abal _ _) (adrew _ _)
  obtain ⟨W3, HW3⟩ : ∃ z, Hid ((W2.alloc (.cells #[.int .i64 (-7702)] 3)).drewN m3 = z) := ⟨_, rfl⟩
  rw [HW3.out] at hb3 ⊢
  have HKP : Hid (KeptI base w1 R1 o n gk dk 0 W3) := ⟨R1, H2.out.via hb3, fun _ _ => rfl, fun k hk => ⟨_, (HG.out k hk).1⟩, fun _ _ => rfl, HB2.out.trans (hb3.mono H2.out.base)⟩
  clear hb3 c3' cn1 CE1 CE2 H2 HB2 HW3 HW2
  go_wp2_with fail
  go_loopw [6, 7, 8] (fun v6 v7 v8 wx => ∃ i : Nat, i ≤ n ∧ v6 = .bool true ∧ v7 = .int .i64 i ∧ Hid (KeptI base w1 R1 o n gk dk i wx)) (fun _ v7 _ _ => n - (RowKit.intOf v7).toNat)
  case atStart => exact ⟨0, Nat.zero_le _, rfl, rfl, HKP⟩
  case round =>
    clear HKP
    obtain ⟨i, hi, rfl, rfl, HI⟩ := hrel
    obtain ⟨R', h1, q1, q2, q3, hBx⟩ := HI.out
    have hob' : R' (o, 0, 0) = _ := (q3 (o, 0, 0) (by simp)).trans HOB.out
    have r5' : R' (o, 5, 0) = _ := (q3 (o, 5, 0) (by simp)).trans R5.out
    have l3' : R' (o, 3, 0) = _ := (q3 (o, 3, 0) (by simp)).trans L3.out
    by_cases hlt : i < n
    · have hlt' : (i : Int) < n := by omega
      have hlt2 : (i : Int) < n + 2 := by omega
      obtain ⟨lb, lo, rfl, hlb, hcs⟩ := HL0.out.mem (by omega)
      obtain ⟨ai, ni, ci, dl0, hls⟩ := hcs i hlt
      obtain ⟨g1, g2⟩ := HG.out i hlt
      have hni := hls.len
      have hB1 := HE.out.2.2.2
      have hBw : Below base w0 wr := HB0.out.2.trans (hB1.trans hBx)
      have d2 : wr.cell? ⟨hb, 2, none⟩ = some (.slice mo M' mc) := h1.cell hob' 2 _ rfl
      have d3 : wr.cell? ⟨hb, 3, none⟩ = some (.slice (some ⟨og, 0, none⟩) (n + 2) oc) := h1.cell hob' 3 _ rfl
      have di : wr.cell? ⟨og, i, none⟩ = some (.slice (some ⟨gk i, 0, none⟩) (zss.getD i []).length (dk i)) := h1.cell r5' i _ (HK.out i hlt)
      have dl : wr.cell? ⟨lb, lo + i, none⟩ = some (.slice ai ni ci) := (hBw.cell (p := ⟨lb, lo + i, none⟩) (Nat.lt_of_lt_of_le hlb HB0.out.1)).trans dl0
      have e4 := (q1 i (Nat.le_refl _)).trans g1
      have hlx := ls_laid h1 e4 (by omega) (by rw [hni]; exact hls.big) hls.rng
      have hly := hls.below hBw HB0.out.1
      rw [hni] at di hlx
      obtain ⟨gki, HGK⟩ : ∃ z, Hid (gk i = z) := ⟨_, rfl⟩
      obtain ⟨dki, HDK⟩ : ∃ z, Hid (dk i = z) := ⟨_, rfl⟩
      rw [HGK.out, HDK.out] at di hlx
      have CE := Lib.hid (fun m => eqints_self (hlx.drew m) (hly.drew m))
      obtain ⟨mb, rfl⟩ := (h1.cap l3').2.2.2.2 (by have := (h1.cap l3').1; have := HM.out; omega)
      have hmi : (i : Int) < M' := by have := HM.out; omega
      have HI' := Lib.hid (And.intro h1 (And.intro hob' (And.intro r5' (And.intro l3' (And.intro hBx hBw)))))
      have Q1 := Lib.hid q1
      have Q2 := Lib.hid q2
      have Q3 := Lib.hid q3
      have E4 := Lib.hid e4
      have HLS := Lib.hid hls
      have HLB : Hid (lb < base) := Nat.lt_of_lt_of_le hlb HB0.out.1
      have DL0 := Lib.hid dl0
      clear h1 hob' r5' l3' hBx hBw q1 q2 q3 e4 hlx hly hls hlb hcs dl0 hB1 g1 g2 HI
      go_wp2_with fail
      go_quiet (first | (with_reducible exact Ret.quiet (CE.out _)))
      obtain ⟨W4, HW4⟩ : ∃ z, Hid (wr.drewN nq = z) := ⟨_, rfl⟩
      have hb4 : Below wr.heap.size wr W4 := by rw [← HW4.out]; exact adrew _ _
      rw [HW4.out]
      obtain ⟨h1, hob', r5', l3', hBx, hBw⟩ := HI'.out
      have h4 := h1.via hb4
      have hBw4 := hBw.trans (hb4.mono h1.base)
      have d2' : W4.cell? ⟨hb, 2, none⟩ = some (.slice (some ⟨mb, 0, none⟩) M' mc) := h4.cell hob' 2 _ rfl
      have dl' : W4.cell? ⟨lb, lo + i, none⟩ = some (.slice ai ni ci) := (hBw4.cell (p := ⟨lb, lo + i, none⟩) HLB.out).trans DL0.out
      have hjj : ((List.range M').map fun k => (R1 (o, 4, k)).v)[i]? = some (.slice (some ⟨gki, 0, none⟩) dki dki) := by
        rw [List.getElem?_map, List.getElem?_range (by omega)]
        simp only [Option.map_some, (HG.out i hlt).1, Rw.v, HGK.out, HDK.out]
      have e4 := E4.out
      rw [HGK.out, HDK.out] at e4
      have CK := Lib.hid (intsKept_any (h4.via (adrew1 W4)) (tp := (o, 3, 0)) (tr := (o, 4, i)) (j := i) (by simp) l3' (ao := some ⟨gki, 0, none⟩) (d := dki) hjj e4 (la := ai) (ln := ni) (lc := ci) (l := zss.getD i []) (fun wx hb => HLS.out.below (hBw4.trans ((Below.refl _ _).drew.trans hb)) HB0.out.1) (mkd_good _ _ _))
      have HBD : Hid (Below base wr W4) := hb4.mono h1.base
      have HDL : Hid (∀ wx, Below base W4 wx → wx.cell? ⟨lb, lo + i, none⟩ = some (.slice ai ni ci)) := fun wx hb => ((hBw4.trans hb).cell (p := ⟨lb, lo + i, none⟩) HLB.out).trans DL0.out
      clear h1 hob' r5' l3' hBx hBw h4 hBw4 hjj e4 hb4 d2 d3 di dl
      go_upto_region 7 with fail
      go_region_held3 (fun wx => wx.cell? ⟨hb, 2, none⟩ = some (.slice (some ⟨mb, 0, none⟩) M' mc) ∧ wx.cell? ⟨lb, lo + i, none⟩ = some (.slice ai ni ci)) (go_keep)
        (first
        | (go_at_call 51; (with_reducible refine Calls.mono CK.out ?_); rintro e w5 ⟨rfl, R5', S5, hH5, s4, sN, hB5⟩; clear d2' dl'; have d2' := hH5.cell ((sN (o, 0, 0) (by simp)).trans HI'.out.2.1) 2 _ rfl; have dl' := HDL.out w5 ((Below.refl _ _).drew.trans hB5)))
      have HST : Hid (KeptI base w1 R1 o n gk dk (i + 1) w5) := by
        refine ⟨R5', hH5, fun k hk => ?_, fun k hk => ?_, fun t ht => ?_, HI'.out.2.2.2.2.1.trans (HBD.out.trans ((Below.refl _ _).drew.trans hB5))⟩
        · rw [sN _ (by simp; omega)]; exact Q1.out k (by omega)
        · by_cases e : k = i
          · subst e; exact ⟨S5, by rw [HGK.out, HDK.out]; exact s4⟩
          · rw [sN _ (by simpa using e)]; exact Q2.out k hk
        · rw [sN _ (ht i)]; exact Q3.out t ht
      clear hH5 s4 sN hB5 d2' dl'
      go_wp2
      go_roundw
      case rel => exact ⟨i + 1, by omega, by first | rfl | simp, by go_num, HST⟩
      case measure => simp [RowKit.intOf]; omega
    · have hge : (n : Int) ≤ i := by omega
      obtain rfl : i = n := by omega
      have HK2 : Hid (∃ ys', KeptI base w1 R1 o i gk dk i wr ∧ True ∧ ys' = ys) := ⟨ys, HI.out, trivial, rfl⟩
      obtain ⟨R', h1, q1, q2, q3, hBx⟩ := HI.out
      have HLP : Hid (∃ ys' : List Value, Hold base wr (updR R' (o, 5, 0) ⟨25, 1, some ⟨og, 0, none⟩, i + 2, oc, ys'⟩) ∧ Below base w1 wr) := ⟨ys, by rw [updS_self ((q3 (o, 5, 0) (by simp)).trans R5.out)]; exact h1, hBx⟩
      have HQ := Lib.hid (And.intro q2 q3)
      have HQ1 := Lib.hid q1
      clear h1 q1 q2 q3 hBx HK2 HI
      go_wp2_with fail
      go_loopw [9] (fun v9 wx => ∃ j : Nat, j ≤ i + 2 ∧ v9 = .int .i64 j ∧ Hid (∃ ys' : List Value, Hold base wx (updR R' (o, 5, 0) ⟨25, 1, some ⟨og, 0, none⟩, i + 2, oc, ys'⟩) ∧ Below base w1 wx)) (fun v9 _ => i + 2 - (RowKit.intOf v9).toNat)
      case atStart => exact ⟨0, Nat.zero_le _, rfl, HLP⟩
      case round =>
        clear HLP
        obtain ⟨j, hj, rfl, HJ⟩ := hrel
        obtain ⟨ys', h1, hBx⟩ := HJ.out
        have hob5 := (updR_ne (R := R') (r := ⟨25, 1, some ⟨og, 0, none⟩, i + 2, oc, ys'⟩) (show (o, 0, 0) ≠ (o, 5, 0) by simp)).trans ((HQ.out.2 (o, 0, 0) (by simp)).trans HOB.out)
        have d3 : wr.cell? ⟨hb, 3, none⟩ = some (.slice (some ⟨og, 0, none⟩) (i + 2) oc) := h1.cell hob5 3 _ rfl
        by_cases hlj : j < i + 2
        · have hlj' : (j : Int) < i + 2 := by omega
          have hyl : j < ys'.length := by have := (h1.cap updR_eq).2.2.1; omega
          have t5 := h1.cell updR_eq j _ (List.getElem?_eq_getElem hyl)
          have t6 := h1.frozen updR_eq j
          have hP := h1.put updR_eq j (.slice none 0 0)
          rw [updS_two] at hP
          have HP : Hid (∃ ys'' : List Value, Hold base (wr.setCell ⟨og, j, none⟩ (.slice none 0 0)) (updR R' (o, 5, 0) ⟨25, 1, some ⟨og, 0, none⟩, i + 2, oc, ys''⟩) ∧ Below base w1 (wr.setCell ⟨og, j, none⟩ (.slice none 0 0))) := ⟨_, hP, hBx.trans (h1.putB updR_eq j _)⟩
          clear hP h1 hBx hob5
          go_wp2
          go_roundw
          case rel => exact ⟨j + 1, by omega, by go_num, HP⟩
          case measure => simp [RowKit.intOf]; omega
        · have hge : ((i : Int) + 2) ≤ j := by omega
          have HF : Hid (∃ M', ManyI base w R o hb M' wr) := by
            obtain ⟨q2, q3⟩ := HQ.out
            have hN : ∀ t, (∀ k, t ≠ (o, 4, k)) → t ≠ (o, 5, 0) → (updR R' (o, 5, 0) ⟨25, 1, some ⟨og, 0, none⟩, i + 2, oc, ys'⟩) t = R1 t := fun t h2 h3 => (updR_ne h3).trans (q3 t h2)
            have h4 : ∀ k, (updR R' (o, 5, 0) ⟨25, 1, some ⟨og, 0, none⟩, i + 2, oc, ys'⟩) (o, 4, k) = R' (o, 4, k) := fun k => updR_ne (by simp)
            have hv : ∀ k, (R' (o, 4, k)).v = (R1 (o, 4, k)).v := fun k => by
              by_cases e : k < i
              · obtain ⟨S, e2⟩ := q2 k e
                rw [e2, (HG.out k e).1]; rfl
              · rw [HQ1.out k (by omega)]
            refine ⟨M', _, h1, ⟨?_, ?_, ?_, ⟨mo, mc, ?_⟩, fun k hk => ?_, ⟨_, _, _, _, updR_eq⟩, B1.out.bnd⟩, ?_, ?_, fun t ht => ?_, HE.out.2.2.2.trans hBx⟩
            · rw [hN (o, 0, 0) (by simp) (by simp), hN (o, 1, 0) (by simp) (by simp), hN (o, 2, 0) (by simp) (by simp), hN (o, 3, 0) (by simp) (by simp), updR_eq, HOB.out, L3.out]; rfl
            · rw [hN (o, 1, 0) (by simp) (by simp)]; exact B1.out.one
            · rw [hN (o, 2, 0) (by simp) (by simp)]; exact B1.out.two
            · rw [hN (o, 3, 0) (by simp) (by simp), L3.out]
              congr 1
              exact List.map_congr_left fun k _ => by rw [h4, hv]
            · rw [h4]
              by_cases e : k < i
              · obtain ⟨S, e2⟩ := q2 k e
                exact ⟨_, _, S, e2⟩
              · rw [HQ1.out k (by omega)]; exact B1.out.els k hk
            · rw [hN (o, 1, 0) (by simp) (by simp)]; exact HE.out.1
            · rw [hN (o, 2, 0) (by simp) (by simp)]; exact HE.out.2.1
            · rw [hN t (fun k e => ht (by rw [e])) (fun e => ht (by rw [e]))]; exact HE.out.2.2.1 t ht
          clear h1 hBx hob5
          go_wp2
          go_ret
          exact ⟨rfl, HF.out⟩
end
end Go.Proofs.Ytdedbfbkakofgaa

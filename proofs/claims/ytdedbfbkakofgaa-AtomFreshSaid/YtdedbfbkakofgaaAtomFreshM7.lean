/- The memory in which a short array is handed in (abacuslaw3.Hand): Lay and Kept. Contracts of abacuslaw2.EqInts, shape.Place. Contracts of shape.indices, shape.At. -/
import Derived.Test.YtdedbfbkakofgaaAtomFreshM6
import Derived.Test.YtdedbfbkakofgaaAtomFreshM5
import Derived.Deep.RegionHeld3
import Derived.Deep.CutRange
import Derived.Deep.Cut
namespace Go.Proofs.Ytdedbfbkakofgaa
open Go.RowKit Go.Lib
set_option linter.unusedVariables false
set_option linter.unusedSimpArgs false
attribute [local go_sem] alloc_drewN setCell_drewN

structure Hd where
  (hb : Nat)
  (sa : Option Addr)
  (sn : Nat)
  (aa : Option Addr)
  (an : Nat)
  (S A : List Int)
/-- The blocks of the hand. -/
def Hd.foot (H : Hd) (k : Nat) : Prop := k = H.hb ∨ (Value.slice H.sa H.sn H.sn).ownBlock = some k ∨ (Value.slice H.aa H.an H.an).ownBlock = some k
structure Hd.Is (H : Hd) (base : Nat) (w : World) : Prop where
  box : BoxA w H.hb (.slice H.sa H.sn H.sn) (.slice H.aa H.an H.an)
  shp : w.ownsRow base 3 1 (.slice H.sa H.sn H.sn) H.sn (H.S.map (Value.int .i64))
  ats : w.ownsRow base 2 1 (.slice H.aa H.an H.an) H.an (H.A.map (Value.int .i64))
  le : base ≤ H.hb
  n1 : (Value.slice H.sa H.sn H.sn).ownBlock ≠ some H.hb
  n2 : (Value.slice H.aa H.an H.an).ownBlock ≠ some H.hb
  ne : ∀ g, (Value.slice H.sa H.sn H.sn).ownBlock = some g → (Value.slice H.aa H.an H.an).ownBlock ≠ some g
  alt : (H.sa = none ∧ H.aa = none) ∨ (H.sa ≠ none ∧ H.aa ≠ none)
theorem Hd.Is.foot_lt {H : Hd} {base : Nat} {w : World} (h : H.Is base w) {k : Nat} (hk : H.foot k) : base ≤ k ∧ k < w.heap.size := by
  rcases hk with rfl | hk | hk
  · exact ⟨h.le, h.box.lt⟩
  · exact own_block h.shp hk
  · exact own_block h.ats hk
theorem Hd.Is.out {H : Hd} {base : Nat} {w w' : World} {F : Nat → Prop} (h : H.Is base w) (ho : Out F w w') (hF : ∀ k, H.foot k → ¬ F k) : H.Is base w' :=
  ⟨ho.boxA h.box (hF _ (.inl rfl)), ho.own h.shp (fun g hg => hF g (.inr (.inl hg))), ho.own h.ats (fun g hg => hF g (.inr (.inr hg))), h.le, h.n1, h.n2, h.ne, h.alt⟩
theorem Hd.Is.via {H : Hd} {base : Nat} {w w' : World} (h : H.Is base w) (hb : Below w.heap.size w w') : H.Is base w' := h.out (F := fun _ => False) (.of hb) (fun _ _ h => h)
theorem own_len {w : World} {base : Nat} {E : TypeId} {v : Value} {n : Nat} {S : List Int} (h : w.ownsRow base E 1 v n (S.map (Value.int .i64))) : S.length = n := by
  have := h.1; simpa using this
theorem Hd.Is.setS {H : Hd} {base : Nat} {w : World} (h : H.Is base w) {g k : Nat} (hg : H.sa = some ⟨g, 0, none⟩) (v : Int) : Hd.Is { H with S := H.S.set k v } base (w.setCell ⟨g, k, none⟩ (.int .i64 v)) := by
  have hv : (Value.slice H.sa H.sn H.sn).ownBlock = some g := by rw [hg]; rfl
  have hne : g ≠ H.hb := fun e => by
    exact h.n1 (by rw [hv, e])
  have ho : Out (fun k => k = g) w (w.setCell ⟨g, k, none⟩ (.int .i64 v)) := (Out.refl (fun k => k = g) w).setCell (p := ⟨g, k, none⟩) (.inl rfl) _
  have hst := h.shp
  rw [hg] at hst
  have hs := (hst.stored k (.int .i64 v)).1
  rw [← List.map_set] at hs
  exact ⟨ho.boxA h.box (fun e => hne e.symm), by rw [hg]; exact hs, ho.own h.ats (fun q hq e => h.ne g hv (by rw [hq, e])), h.le, h.n1, h.n2, h.ne, h.alt⟩
theorem Hd.Is.setA {H : Hd} {base : Nat} {w : World} (h : H.Is base w) {g k : Nat} (hg : H.aa = some ⟨g, 0, none⟩) (v : Int) : Hd.Is { H with A := H.A.set k v } base (w.setCell ⟨g, k, none⟩ (.int .i64 v)) := by
  have hv : (Value.slice H.aa H.an H.an).ownBlock = some g := by rw [hg]; rfl
  have hne : g ≠ H.hb := fun e => by
    exact h.n2 (by rw [hv, e])
  have ho : Out (fun k => k = g) w (w.setCell ⟨g, k, none⟩ (.int .i64 v)) := (Out.refl (fun k => k = g) w).setCell (p := ⟨g, k, none⟩) (.inl rfl) _
  have hst := h.ats
  rw [hg] at hst
  have hs := (hst.stored k (.int .i64 v)).1
  rw [← List.map_set] at hs
  exact ⟨ho.boxA h.box (fun e => hne e.symm), ho.own h.shp (fun q hq e => h.ne q hq (by rw [hv, e])), by rw [hg]; exact hs, h.le, h.n1, h.n2, h.ne, h.alt⟩
/-- The i-th mark behind a list. -/
def mkS (i : Nat) : Int := wrap64 (-70000 - (i : Int))
def mkA (i : Nat) : Int := wrap64 (-80000 - (i : Int))
/-- What stands in a row, as far as it reaches: a list, marks behind it. -/
def Good (s S : List Int) (f : Nat → Int) : Prop := ∀ i, i < S.length → S.getD i 0 = if i < s.length then s.getD i 0 else f i
/-- A row whose first k elements are written over. -/
def ovr (v : Int) (k : Nat) (S : List Int) : List Int := List.replicate k v ++ S.drop k
theorem ovr_len (v : Int) {k : Nat} {S : List Int} (h : k ≤ S.length) : (ovr v k S).length = S.length := by simp [ovr]; omega
theorem ovr_set (v : Int) {k : Nat} {S : List Int} (h : k < S.length) : (ovr v k S).set k v = ovr v (k + 1) S := by
  unfold ovr
  rw [List.set_append_right _ _ (by simp), List.length_replicate, Nat.sub_self, List.drop_eq_getElem_cons h, List.set_cons_zero, List.replicate_succ', List.append_assoc]
  rfl
theorem ovr_get (v : Int) {k : Nat} {S : List Int} (h : k < S.length) : (ovr v k S).getD k 0 = S.getD k 0 := by
  unfold ovr
  rw [List.getD_eq_getElem?_getD, List.getElem?_append_right (by simp), List.length_replicate, Nat.sub_self, List.getElem?_drop, Nat.add_zero, List.getD_eq_getElem?_getD]
/-- The hand after Kept: its own blocks alone were written. -/
def KeptP (H : Hd) (base : Nat) (w : World) (e : Ending) (w' : World) : Prop :=
  e = .returned (.bool true) ∧ Out H.foot w w' ∧ ∃ H' : Hd, H'.hb = H.hb ∧ (∀ k, H'.foot k → H.foot k) ∧ H'.Is base w'
theorem beq_same (x : Int) : (x == x) = true := by simp
set_option maxRecDepth 100000 in
set_option maxHeartbeats 1600000 in
theorem kept_any {w0 w : World} {H : Hd} {A : Ar} (hA : A.Is w0) (hv : Below w0.heap.size w0 w) (hH : H.Is w0.heap.size w) (hs : Good A.s H.S mkS) (ha : Good A.a H.A mkA) :
    Calls Try.prog 36 #[.pointer (some ⟨H.hb, 0, none⟩), A.v] w (KeptP H w0.heap.size w) := by
  obtain ⟨ta, tn, tc, ba, bn, bc, t, b⟩ := A
  simp only [Ar.v] at hs ha ⊢
  obtain ⟨hb, sa, sn, aa, an, S, R⟩ := H
  simp only at hs ha ⊢
  obtain ⟨W, HW⟩ : ∃ z, Hid (w.alloc (.cells #[.slice ta tn tc, .slice ba bn bc] 55) = z) := ⟨_, rfl⟩
  have hw : Below w.heap.size w W := by rw [← HW.out]; exact abal _ _
  have BY : Hid (BoxA W w.heap.size (.slice ta tn tc) (.slice ba bn bc)) := by show BoxA _ _ _ _; rw [← HW.out]; exact BoxA.new _ _ _ _
  have HHW := Lib.hid (hH.via hw)
  have HVW := Lib.hid (hv.trans (hw.mono hv.size))
  have HWB := Lib.hid hw
  have HF := Lib.hid (fun k (hk : Hd.foot ⟨hb, sa, sn, aa, an, S, R⟩ k) => hH.foot_lt hk)
  have LT := Lib.hid hA.shp.len
  have LB := Lib.hid hA.ats.len
  have LS := Lib.hid (own_len hH.shp)
  have LR := Lib.hid (own_len hH.ats)
  have gs := hH.shp
  obtain ⟨gs1, gs2, -⟩ := own_full gs
  have ga := hH.ats
  obtain ⟨ga1, ga2, -⟩ := own_full ga
  simp only at LT LB LS LR gs2 ga2
  unfold maxLen at gs2 ga2
  have HS := Lib.hid hs
  have HA := Lib.hid ha
  have IA := Lib.hid hA
  have bt := hA.shp.big
  have bb := hA.ats.big
  simp only at bt bb
  have HZ : Hid (∀ wr, Out (Hd.foot ⟨hb, sa, sn, aa, an, S, R⟩) W wr → Below w0.heap.size w0 wr ∧ BoxA wr w.heap.size (.slice ta tn tc) (.slice ba bn bc)) := by
    intro wr ho
    refine ⟨HVW.out.trans (ho.toBelow (fun k hk => (HF.out k hk).1) (Nat.le_trans HVW.out.size (Nat.le_refl _))), ho.boxA BY.out fun hk => ?_⟩
    have := (HF.out _ hk).2; omega
  clear hA hv hH hs ha hw gs ga
  go_enter Try.func36, Try.ntmps36
  have q0 := HHW.out.box
  simp only at q0
  obtain ⟨x0, x1, x2, x3, x4⟩ := q0
  obtain ⟨y0, y1, -, -, -⟩ := BY.out
  go_wp2_with fail
  rw [HW.out]
  go_loopw [5, 6] (fun o i wr => ∃ k : Nat, k ≤ sn ∧ o = .bool true ∧ i = .int .i64 k ∧ Hid (Hd.Is ⟨hb, sa, sn, aa, an, ovr 3 k S, R⟩ w0.heap.size wr) ∧ Hid (Out (Hd.foot ⟨hb, sa, sn, aa, an, S, R⟩) W wr)) (fun _ i _ => sn - (RowKit.intOf i).toNat)
  case atStart => exact ⟨0, Nat.zero_le _, rfl, rfl, HHW, Out.refl _ _⟩
  case round =>
    obtain ⟨k, hk, rfl, rfl, HI, HO⟩ := hrel
    clear x0 x1 x2 x3 x4 y0 y1
    have q0 := HI.out.box
    simp only at q0
    obtain ⟨x0, x1, x2, x3, x4⟩ := q0
    obtain ⟨HBV, q1⟩ := HZ.out wr HO.out
    obtain ⟨y0, y1, -, -, -⟩ := q1
    have HBV := Lib.hid HBV
    by_cases hlt : k < sn
    · have hlt' : (k : Int) < sn := by omega
      obtain ⟨g, rfl, hg1, hg2⟩ := own_some HI.out.shp (show 0 < sn by omega)
      have hSk := HS.out k (by rw [LS.out]; exact hlt)
      have hlk : k < (ovr 3 k S).length := by rw [ovr_len _ (by rw [LS.out]; exact hk), LS.out]; exact hlt
      have d1 : wr.cell? ⟨g, k, none⟩ = some (.int .i64 (S.getD k 0)) := by
        have h := HI.out.shp.cellAt k (by simp only; omega)
        simp only at h
        rw [h, getD_map_int _ k hlk, ovr_get _ (by rw [LS.out]; exact hlt)]
      have d2 : wr.frozen? ⟨g, k, none⟩ = false := HI.out.shp.frozenAt k
      have HI2 : Hid (Hd.Is ⟨hb, some ⟨g, 0, none⟩, sn, aa, an, ovr 3 (k + 1) S, R⟩ w0.heap.size (wr.setCell ⟨g, k, none⟩ (.int .i64 3))) := by
        have h := HI.out.setS (g := g) (k := k) rfl 3
        simp only [ovr_set _ (show k < S.length by rw [LS.out]; exact hlt)] at h
        exact h
      have HO2 : Hid (Out (Hd.foot ⟨hb, some ⟨g, 0, none⟩, sn, aa, an, S, R⟩) W (wr.setCell ⟨g, k, none⟩ (.int .i64 3))) := HO.out.setCell (p := ⟨g, k, none⟩) (.inl (Or.inr (Or.inl rfl))) _
      by_cases hkt : k < tn
      · have hkt' : (k : Int) < tn := by omega
        rw [LT.out, if_pos hkt] at hSk
        obtain ⟨ob, fb, rfl, hcb⟩ := (IA.out.via HBV.out).shp.at (show 0 < tn by omega)
        have d3 := hcb k hkt
        simp only at d3
        rw [hSk] at d1
        obtain ⟨x, HX⟩ : ∃ z, Hid (t.getD k 0 = z) := ⟨_, rfl⟩
        rw [HX.out] at d1 d3
        have hb := beq_same x
        clear hcb hSk hlk hg1 hg2
        go_wp2
        go_roundw
        case rel => exact ⟨k + 1, by omega, by first | rfl | simp, by go_num, HI2, HO2⟩
        case measure => simp [RowKit.intOf]; omega
      · have hkt' : (tn : Int) ≤ k := by omega
        rw [LT.out, if_neg hkt] at hSk
        unfold mkS at hSk
        rw [hSk] at d1
        have hb := beq_same (wrap64 (-70000 - (k : Int)))
        clear hSk hlk hg1 hg2
        go_wp2
        go_roundw
        case rel => exact ⟨k + 1, by omega, by first | rfl | simp, by go_num, HI2, HO2⟩
        case measure => simp [RowKit.intOf]; omega
    · have hge : (sn : Int) ≤ k := by omega
      obtain ⟨S2, HS2⟩ : ∃ z, Hid (ovr 3 k S = z) := ⟨_, rfl⟩
      rw [HS2.out] at HI
      have HI0 := HI
      have HO0 := HO
      clear hlt
      go_wp2_with fail
      go_loopw [5, 8] (fun o i wr => ∃ k : Nat, k ≤ an ∧ o = .bool true ∧ i = .int .i64 k ∧ Hid (Hd.Is ⟨hb, sa, sn, aa, an, S2, ovr 99 k R⟩ w0.heap.size wr) ∧ Hid (Out (Hd.foot ⟨hb, sa, sn, aa, an, S, R⟩) W wr)) (fun _ i _ => an - (RowKit.intOf i).toNat)
      case atStart => exact ⟨0, Nat.zero_le _, rfl, rfl, HI0, HO0⟩
      case round =>
        clear HI HO HI0 HO0 HBV hk hge HS2
        obtain ⟨k, hk, rfl, rfl, HI, HO⟩ := hrel
        clear x0 x1 x2 x3 x4 y0 y1
        have q0 := HI.out.box
        simp only at q0
        obtain ⟨x0, x1, x2, x3, x4⟩ := q0
        obtain ⟨HBV, q1⟩ := HZ.out wr HO.out
        obtain ⟨y0, y1, -, -, -⟩ := q1
        have HBV := Lib.hid HBV
        by_cases hlt : k < an
        · have hlt' : (k : Int) < an := by omega
          obtain ⟨g, rfl, hg1, hg2⟩ := own_some HI.out.ats (show 0 < an by omega)
          have hSk := HA.out k (by rw [LR.out]; exact hlt)
          have hlk : k < (ovr 99 k R).length := by rw [ovr_len _ (by rw [LR.out]; exact hk), LR.out]; exact hlt
          have d1 : wr.cell? ⟨g, k, none⟩ = some (.int .i64 (R.getD k 0)) := by
            have h := HI.out.ats.cellAt k (by simp only; omega)
            simp only at h
            rw [h, getD_map_int _ k hlk, ovr_get _ (by rw [LR.out]; exact hlt)]
          have d2 : wr.frozen? ⟨g, k, none⟩ = false := HI.out.ats.frozenAt k
          have HI2 : Hid (Hd.Is ⟨hb, sa, sn, some ⟨g, 0, none⟩, an, S2, ovr 99 (k + 1) R⟩ w0.heap.size (wr.setCell ⟨g, k, none⟩ (.int .i64 99))) := by
            have h := HI.out.setA (g := g) (k := k) rfl 99
            simp only [ovr_set _ (show k < R.length by rw [LR.out]; exact hlt)] at h
            exact h
          have HO2 : Hid (Out (Hd.foot ⟨hb, sa, sn, some ⟨g, 0, none⟩, an, S, R⟩) W (wr.setCell ⟨g, k, none⟩ (.int .i64 99))) := HO.out.setCell (p := ⟨g, k, none⟩) (.inl (Or.inr (Or.inr rfl))) _
          by_cases hkt : k < bn
          · have hkt' : (k : Int) < bn := by omega
            rw [LB.out, if_pos hkt] at hSk
            obtain ⟨ob, fb, rfl, hcb⟩ := (IA.out.via HBV.out).ats.at (show 0 < bn by omega)
            have d3 := hcb k hkt
            simp only at d3
            rw [hSk] at d1
            obtain ⟨x, HX⟩ : ∃ z, Hid (b.getD k 0 = z) := ⟨_, rfl⟩
            rw [HX.out] at d1 d3
            have hb := beq_same x
            clear hcb hSk hlk hg1 hg2
            go_wp2
            go_roundw
            case rel => exact ⟨k + 1, by omega, by first | rfl | simp, by go_num, HI2, HO2⟩
            case measure => simp [RowKit.intOf]; omega
          · have hkt' : (bn : Int) ≤ k := by omega
            rw [LB.out, if_neg hkt] at hSk
            unfold mkA at hSk
            rw [hSk] at d1
            have hb := beq_same (wrap64 (-80000 - (k : Int)))
            clear hSk hlk hg1 hg2
            go_wp2
            go_roundw
            case rel => exact ⟨k + 1, by omega, by first | rfl | simp, by go_num, HI2, HO2⟩
            case measure => simp [RowKit.intOf]; omega
        · have hge : (an : Int) ≤ k := by omega
          have HE : Hid (KeptP ⟨hb, sa, sn, aa, an, S, R⟩ w0.heap.size w (.returned (.bool true)) wr) :=
            ⟨rfl, (Out.of HWB.out).trans HO.out (fun _ _ h => h), ⟨hb, sa, sn, aa, an, S2, ovr 99 k R⟩, rfl, fun k h => h, HI.out⟩
          clear hlt
          go_wp2
          go_ret
          exact HE.out
def shB (A : Ar) : Bool := decide (A.sn ≤ 5000) && decide (A.an ≤ 5000)
set_option maxRecDepth 100000 in
set_option maxHeartbeats 400000 in
theorem short_any {w : World} {A : Ar} (hA : A.Is w) : Calls Try.prog 22 #[A.v] w (RetB w (.bool (shB A))) := by
  obtain ⟨ta, tn, tc, ba, bn, bc, t, b⟩ := A
  simp only [Ar.v]
  by_cases h1 : tn ≤ 5000
  · by_cases h2 : bn ≤ 5000
    · have e : shB ⟨ta, tn, tc, ba, bn, bc, t, b⟩ = true := by simp [shB, h1, h2]
      have h1' : (tn : Int) ≤ 5000 := by omega
      have h2' : (bn : Int) ≤ 5000 := by omega
      rw [e]
      clear hA e
      go_enter Try.func22, Try.ntmps22
      go_wp2
      go_ret
      exact RetB.mk rfl (abal _ _)
    · have e : shB ⟨ta, tn, tc, ba, bn, bc, t, b⟩ = false := by simp [shB, h1, h2]
      have h1' : (tn : Int) ≤ 5000 := by omega
      have h2' : (5000 : Int) < bn := by omega
      rw [e]
      clear hA e
      go_enter Try.func22, Try.ntmps22
      go_wp2
      go_ret
      exact RetB.mk (boolv (decide_eq_false (by omega))) (abal _ _)
  · have e : shB ⟨ta, tn, tc, ba, bn, bc, t, b⟩ = false := by simp [shB, h1]
    have h1' : (5000 : Int) < tn := by omega
    rw [e]
    clear hA e
    go_enter Try.func22, Try.ntmps22
    go_wp2
    go_ret
    exact RetB.mk rfl (abal _ _)
end Go.Proofs.Ytdedbfbkakofgaa

namespace Go.Proofs.Ytdedbfbkakofgaa
open Go.RowKit Go.Lib
set_option linter.unusedVariables false
set_option linter.unusedSimpArgs false
attribute [local go_sem] alloc_drewN setCell_drewN

set_option maxHeartbeats 800000 in
theorem eqints_any {w : World} {a1 a2 : Option Addr} {n1 c1 n2 c2 : Nat} {s t : List Int} (h1 : Ls w a1 n1 c1 s) (h2 : Ls w a2 n2 c2 t) :
    Calls Try.prog 19 #[.slice a1 n1 c1, .slice a2 n2 c2] w (Ret w (.bool (decide (s = t)))) := by
  have l1 := h1.len
  have l2 := h2.len
  have g1 := h1.big
  obtain ⟨r, HR⟩ : ∃ r, Hid (decide (s = t) = r) := ⟨_, rfl⟩
  rw [HR.out]
  by_cases hst : ¬ n1 = n2
  · have hr : Hid (r = false) := by
      show r = false
      rw [← HR.out]; simp only [decide_eq_false_iff_not]
      rintro rfl; omega
    have hne : ((n1 : Int) != n2) = true := by simp; omega
    have hne' : (n1 != n2) = true := by simp; omega
    clear l1 l2 h1 h2 hst
    go_enter Try.func19, Try.ntmps19
    go_wp2
    go_ret
    exact Ret.mk0 (boolv hr.out.symm)
  have hst' : n1 = n2 := by omega
  subst hst'
  have H1 := Lib.hid h1
  have H2 := Lib.hid h2
  have L1 := Lib.hid l1
  have L2 := Lib.hid l2
  have q1 : ((n1 : Int) != n1) = false := by simp
  clear h1 h2 l1 l2 hst
  go_enter Try.func19, Try.ntmps19
  go_wp2
  clear q1
  go_loopw [5] (fun i wr => ∃ k : Nat, k ≤ n1 ∧ i = .int .i64 k ∧ Hid (∀ j, j < k → s.getD j 0 = t.getD j 0) ∧ ∃ q, wr = w.drewN q) (fun i _ => n1 - (RowKit.intOf i).toNat)
  case atStart => exact ⟨0, Nat.zero_le _, rfl, fun j hj => absurd hj (by omega), 0, rfl⟩
  case round =>
    obtain ⟨k, hk, rfl, hs, q, rfl⟩ := hrel
    by_cases hlt : k < n1
    · have hlt' : (k : Int) < n1 := by omega
      obtain ⟨b1, o1, rfl, hc1⟩ := H1.out.at (by omega)
      obtain ⟨b2, o2, rfl, hc2⟩ := H2.out.at (by omega)
      have d1 := hc1 k hlt
      have d2 := hc2 k hlt
      clear hc1 hc2
      obtain ⟨x, HX⟩ : ∃ x, Hid (s.getD k 0 = x) := ⟨_, rfl⟩
      obtain ⟨y, HY⟩ : ∃ y, Hid (t.getD k 0 = y) := ⟨_, rfl⟩
      rw [HX.out] at d1
      rw [HY.out] at d2
      by_cases hxy : x = y
      · subst hxy
        have hs' : Hid (∀ j, j < k + 1 → s.getD j 0 = t.getD j 0) := by
          intro j hj
          by_cases e : j = k
          · subst e; rw [HX.out, HY.out]
          · exact hs.out j (by omega)
        go_wp2
        go_quiet (fail)
        go_wp2
        go_roundw
        case rel => exact ⟨k + 1, by omega, by go_num, hs', _, rfl⟩
        case measure => simp [RowKit.intOf]; omega
      · have hne : (x != y) = true := by simpa using hxy
        have hr : Hid (r = false) := by
          show r = false
          rw [← HR.out]
          simp only [decide_eq_false_iff_not]
          intro h
          exact hxy (by rw [← HX.out, ← HY.out, h])
        go_wp2
        go_quiet (fail)
        go_wp2
        go_ret
        exact ⟨congrArg Ending.returned (boolv hr.out.symm), _, World.drewN_drewN _ _ _⟩
    · have hr : Hid (r = true) := by
        show r = true
        rw [← HR.out]
        simp only [decide_eq_true_eq]
        exact list_eq_of L1.out L2.out hs.out (by omega)
      have hge : (n1 : Int) ≤ k := by omega
      go_wp2
      go_ret
      exact Ret.mk _ (boolv hr.out.symm)
/-- The number of the place with the first k indices. -/
def plN (s a : List Int) : Nat → Int
  | 0 => 0
  | k + 1 => plN s a k * s.getD k 0 + a.getD k 0
/-- The first k indices lie in the shape. -/
def inR (s a : List Int) (k : Nat) : Prop := ∀ i, i < k → 0 ≤ a.getD i 0 ∧ a.getD i 0 < s.getD i 0
instance (s a : List Int) (k : Nat) : Decidable (inR s a k) := by unfold inR; infer_instance
theorem plN_bd {s a : List Int} (hs : ∀ i, 0 ≤ s.getD i 0) {k : Nat} (hk : k ≤ s.length) (h : inR s a k) : 0 ≤ plN s a k ∧ plN s a k < pr (s.take k) := by
  induction k with
  | zero => simp [plN, pr]
  | succ k ih =>
    obtain ⟨h1, h2⟩ := ih (by omega) (fun i hi => h i (by omega))
    obtain ⟨h3, h4⟩ := h k (by omega)
    rw [pr_snoc (by omega)]
    simp only [plN]
    have h5 : 0 ≤ plN s a k * s.getD k 0 := Int.mul_nonneg h1 (hs k)
    have h6 : (plN s a k + 1) * s.getD k 0 ≤ pr (s.take k) * s.getD k 0 := Int.mul_le_mul_of_nonneg_right (by omega) (hs k)
    rw [Int.add_mul, Int.one_mul] at h6
    omega
def plV (s a : List Int) : Int := if mayE s = 0 ∧ a.length = s.length ∧ inR s a s.length then plN s a s.length else 0
def plE (s a : List Int) : Int := if mayE s = 0 then if a.length = s.length then if inR s a s.length then 0 else 13 else 12 else mayE s
set_option maxRecDepth 100000 in
set_option maxHeartbeats 800000 in
theorem place_any {w : World} {a1 a2 : Option Addr} {n1 c1 n2 c2 : Nat} {s t : List Int} (h1 : Ls w a1 n1 c1 s) (h2 : Ls w a2 n2 c2 t) :
    Calls Try.prog 42 #[.slice a1 n1 c1, .slice a2 n2 c2] w (RetS w (.tuple #[.int .i64 (plV s t), .int .i64 (plE s t)])) := by
  have CM := Lib.hid (may_any h1)
  obtain ⟨v, HV⟩ : ∃ v, Hid (plV s t = v) := ⟨_, rfl⟩
  obtain ⟨e, HE⟩ : ∃ v, Hid (plE s t = v) := ⟨_, rfl⟩
  rw [HV.out, HE.out]
  by_cases hm : ¬ mayE s = 0
  · obtain rfl : v = 0 := by rw [← HV.out]; simp [plV, hm]
    obtain rfl : e = mayE s := by rw [← HE.out]; simp [plE, hm]
    obtain ⟨e, he⟩ : ∃ v, mayE s = v := ⟨_, rfl⟩
    rw [he] at CM hm ⊢
    have hm' : (e != 0) = true := by simpa using hm
    clear h1 h2 HE HV he hm
    go_enter Try.func42, Try.ntmps42
    go_wp2_with fail
    refine CM.out.mono ?_; rintro e' w' ⟨rfl, rfl⟩
    go_wp2
    go_ret2
    exact RetS.mk rfl
  have hm : mayE s = 0 := by simpa using hm
  rw [hm] at CM
  have l1 := h1.len
  have l2 := h2.len
  by_cases hl : ¬ t.length = s.length
  · obtain rfl : v = 0 := by rw [← HV.out]; simp [plV, hl]
    obtain rfl : e = 12 := by rw [← HE.out]; simp [plE, hm, hl]
    have hne : ((n2 : Int) != n1) = true := by simp; omega
    have hne' : (n2 != n1) = true := by simp; omega
    clear h1 h2 HE HV hm l1 l2 hl
    go_enter Try.func42, Try.ntmps42
    go_wp2_with fail
    refine CM.out.mono ?_; rintro e' w' ⟨rfl, rfl⟩
    go_wp2
    go_ret2
    exact RetS.mk rfl
  have hl : t.length = s.length := by simpa using hl
  obtain rfl : n2 = n1 := by omega
  obtain ⟨g1, g2, g3⟩ := mayE_zero hm
  have HG1 := Lib.hid g1
  have HG3 := Lib.hid g3
  have H1 := Lib.hid h1
  have H2 := Lib.hid h2
  have L1 := Lib.hid l1
  have HM := Lib.hid hm
  have HL := Lib.hid hl
  have hb : n2 ≤ 8 := by omega
  have q1 : ((n2 : Int) != n2) = false := by simp
  have q2 : (n2 != n2) = false := by simp
  clear h1 h2 g1 g2 g3 l1 l2 hm hl
  go_enter Try.func42, Try.ntmps42
  go_wp2_with fail
  refine CM.out.mono ?_; rintro e' w' ⟨rfl, rfl⟩
  go_wp2_with fail
  go_loopw [7, 22] (fun p i wr => ∃ (k : Nat) (P : Int), k ≤ n2 ∧ i = .int .i64 k ∧ p = .int .i64 P ∧ Hid (plN s t k = P) ∧ Hid (inR s t k) ∧ wr = w') (fun _ i _ => n2 - (RowKit.intOf i).toNat)
  case atStart => exact ⟨0, 0, Nat.zero_le _, rfl, rfl, rfl, fun i hi => absurd hi (by omega), rfl⟩
  case round =>
    obtain ⟨k, P, hk, rfl, rfl, HP, HI, hwr⟩ := hrel
    have hwr' := hwr.symm
    subst hwr'
    by_cases hlt : k < n2
    · have hlt' : (k : Int) < n2 := by omega
      obtain ⟨b1, o1, rfl, hc1⟩ := H1.out.at (by omega)
      obtain ⟨b2, o2, rfl, hc2⟩ := H2.out.at (by omega)
      have d1 := hc1 k hlt
      have d2 := hc2 k hlt
      clear hc1 hc2
      have hr1 := H1.out.rng k
      have hbd := plN_bd HG1.out (k := k) (by rw [L1.out]; omega) HI.out
      have hp1 := pr_le s HG1.out k
      have hp2 := pm_all s k
      have hp3 := pr_le s HG1.out (k + 1)
      have hp4 := pm_all s (k + 1)
      have hp5 := (pm_up s k).2.2
      have hg0 := HG1.out k
      have hbd2 : (t.getD k 0 < s.getD k 0 ∧ 0 ≤ t.getD k 0) → 0 ≤ P * s.getD k 0 ∧ P * s.getD k 0 + t.getD k 0 < pr (s.take (k + 1)) := by
        rintro ⟨h3, h4⟩
        have h := plN_bd HG1.out (k := k + 1) (by rw [L1.out]; omega) (fun i hi => by
          by_cases e : i = k
          · subst e; exact ⟨h4, h3⟩
          · exact HI.out i (by omega))
        simp only [plN, HP.out] at h
        have h5 : 0 ≤ plN s t k * s.getD k 0 := Int.mul_nonneg hbd.1 hg0
        rw [HP.out] at h5
        exact ⟨h5, h.2⟩
      obtain ⟨x, HX⟩ : ∃ x, Hid (s.getD k 0 = x) := ⟨_, rfl⟩
      obtain ⟨y, HY⟩ : ∃ y, Hid (t.getD k 0 = y) := ⟨_, rfl⟩
      rw [HX.out] at d1
      rw [HY.out] at d2
      rw [HX.out, HY.out] at hbd2
      have hg3 := HG3.out
      by_cases hy : 0 ≤ y ∧ y < x
      · obtain ⟨hy1, hy2⟩ := hy
        obtain ⟨hz1, hz2⟩ := hbd2 ⟨hy2, hy1⟩
        have z1 : IntKind.i64.wrap (P * x) = P * x := IntWalk.i64_in _ (by omega)
        have z2 : IntKind.i64.wrap (P * x + y) = P * x + y := IntWalk.i64_in _ (by omega)
        have HP2 : Hid (plN s t (k + 1) = P * x + y) := by show _ = _; simp only [plN, HP.out, HX.out, HY.out]
        have HI2 : Hid (inR s t (k + 1)) := fun i hi => by
          by_cases e : i = k
          · subst e; rw [HX.out, HY.out]; exact ⟨hy1, hy2⟩
          · exact HI.out i (by omega)
        have y1 : decide (y < 0) = false := by simpa using hy1
        have y2 : decide (x ≤ y) = false := by simpa using hy2
        clear hbd hp1 hp2 hp3 hp4 hp5 hg0 hbd2 hg3 hr1 hz1 hz2
        go_wp2
        go_roundw
        case rel => exact ⟨k + 1, _, by omega, by go_num, rfl, HP2, HI2, by first | rfl | trivial⟩
        case measure => simp [RowKit.intOf]; omega
      · have hni : ¬ inR s t s.length := fun h => by
          have h3 := h k (by rw [L1.out]; exact hlt)
          rw [HX.out, HY.out] at h3
          exact hy h3
        obtain rfl : v = 0 := by rw [← HV.out]; simp [plV, hni]
        obtain rfl : e = 13 := by rw [← HE.out]; simp [plE, HM.out, HL.out, hni]
        clear hbd hp1 hp2 hp3 hp4 hp5 hg0 hbd2 hg3 hr1 hni
        by_cases hy0 : y < 0
        · go_wp2
          go_ret2
          exact RetS.mk rfl
        · have hyx : x ≤ y := by omega
          go_wp2
          go_ret2
          exact RetS.mk rfl
    · obtain rfl : k = n2 := by omega
      have hge : (k : Int) ≤ k := Int.le_refl _
      have hI := HI.out
      rw [← L1.out] at hI
      have hP := HP.out
      rw [← L1.out] at hP
      obtain rfl : v = P := by rw [← HV.out, ← hP]; simp [plV, HM.out, HL.out, hI]
      obtain rfl : e = 0 := by rw [← HE.out]; simp [plE, HM.out, HL.out, hI]
      clear hI hP
      go_wp2
      go_ret2
      exact RetS.mk rfl
end Go.Proofs.Ytdedbfbkakofgaa

namespace Go.Proofs.Ytdedbfbkakofgaa
open Go.RowKit Go.Lib
set_option linter.unusedVariables false
set_option linter.unusedSimpArgs false
attribute [local go_sem] alloc_drewN setCell_drewN

/-- The call hands back a row of its own that reads as zs. -/
def MadeL (w : World) (zs : List Int) (e : Ending) (w' : World) : Prop :=
  ∃ ao n c, e = .returned (.slice ao n c) ∧ Ls w' ao n c zs ∧ w'.ownsRow w.heap.size 3 1 (.slice ao n c) n (zs.map (Value.int .i64)) ∧ Below w.heap.size w w'
/-- The same, and an error number. -/
def MadeS (w : World) (zs : List Int) (err : Int) (e : Ending) (w' : World) : Prop :=
  ∃ ao n c, e = .returned (.tuple #[.slice ao n c, .int .i64 err]) ∧ Ls w' ao n c zs ∧ w'.ownsRow w.heap.size 3 1 (.slice ao n c) n (zs.map (Value.int .i64)) ∧ Below w.heap.size w w'
theorem MadeS.nil {w w' : World} (err : Int) (h : Below w.heap.size w w') : MadeS w [] err (.returned (.tuple #[.slice none 0 0, .int .i64 err])) w' :=
  ⟨none, 0, 0, rfl, Ls.zero _ _ (Nat.zero_le _), World.ownsRow_nil _ _ _ _, h⟩
/-- The indices of a place. -/
def ixL (s : List Int) (p : Int) : List Int := (List.range s.length).map fun i => (p / pr (s.drop (i + 1))) % s.getD i 0
theorem ixL_len (s : List Int) (p : Int) : (ixL s p).length = s.length := by simp [ixL]
theorem ixL_at {s : List Int} {p : Int} {k : Nat} (h : k < s.length) : (ixL s p).getD k 0 = (p / pr (s.drop (k + 1))) % s.getD k 0 := by
  simp [ixL, List.getD, h]
theorem pr_drop {s : List Int} {k : Nat} (h : k < s.length) : pr (s.drop k) = s.getD k 0 * pr (s.drop (k + 1)) := by
  rw [List.drop_eq_getElem_cons h, pr_cons]; simp [List.getD, List.getElem?_eq_getElem h]
theorem pos_all : ∀ {s : List Int}, (∀ i, 0 ≤ s.getD i 0) → 0 < pr s → ∀ i, i < s.length → 1 ≤ s.getD i 0
  | [], _, _, i, hi => absurd hi (by simp)
  | x :: xs, h0, hp, i, hi => by
    rw [pr_cons] at hp
    have hx : 0 ≤ x := by simpa using h0 0
    have hxs : ∀ i, 0 ≤ xs.getD i 0 := fun i => by have := h0 (i + 1); simpa [List.getD] using this
    have h1 : x ≠ 0 := by rintro rfl; simp at hp
    have h2 : 0 < pr xs := by
      have h3 := (pr_le xs hxs xs.length).1
      rw [List.take_length] at h3
      rcases Int.lt_or_eq_of_le h3 with h4 | h4
      · exact h4
      · rw [← h4] at hp; simp at hp
    cases i with
    | zero => simp; omega
    | succ i => have := pos_all hxs h2 i (by simpa using hi); simpa [List.getD] using this
theorem pr_drop_pos {s : List Int} (h : ∀ i, i < s.length → 1 ≤ s.getD i 0) (k : Nat) : 1 ≤ pr (s.drop k) := by
  rcases Nat.lt_or_ge k s.length with hk | hk
  · rw [pr_drop hk]
    have h1 := pr_drop_pos h (k + 1)
    have h2 := h k hk
    exact (le_mul1 h2 h1).1 |> fun h3 => by omega
  · rw [List.drop_of_length_le hk]; simp [pr]
termination_by s.length - k
theorem ixL_rng {s : List Int} {p : Int} (h : ∀ i, i < s.length → 1 ≤ s.getD i 0) (i : Nat) (hi : i < s.length) : 0 ≤ (ixL s p).getD i 0 ∧ (ixL s p).getD i 0 < s.getD i 0 := by
  rw [ixL_at hi]
  have := h i hi
  exact ⟨Int.emod_nonneg _ (by omega), Int.emod_lt_of_pos _ (by omega)⟩
theorem set_ix {L : List Int} {k : Nat} (h : k < L.length) : (List.replicate (k + 1) (0 : Int) ++ L.drop (k + 1)).set k (L.getD k 0) = List.replicate k 0 ++ L.drop k := by
  rw [List.set_append_left _ _ (by simp), List.drop_eq_getElem_cons h, List.replicate_succ' (n := k), List.set_append_right _ _ (by simp)]
  simp [List.getD, List.getElem?_eq_getElem h]
set_option maxRecDepth 100000 in
set_option maxHeartbeats 800000 in
theorem indices_any {w : World} {ao : Option Addr} {n c : Nat} {s : List Int} (h : Ls w ao n c s) (p : Int) (hp : 0 ≤ p ∧ p ≤ 1000000) (hn : n ≤ 1000) (hs : ∀ i, i < s.length → 1 ≤ s.getD i 0) :
    Calls Try.prog 89 #[.slice ao n c, .int .i64 p] w (MadeL w (ixL s p)) := by
  have hmk := fun w => mk_int n (by omega) w
  have hl := h.len
  have HO0 := Lib.hid (own_zeros w 3 n w.heap.size (by omega) (Nat.le_refl _))
  have H := Lib.hid h
  have HS := Lib.hid hs
  have HL := Lib.hid hl
  have z0 : IntKind.i64.wrap ((n : Int) - 1) = n - 1 := IntWalk.i64_in _ (by omega)
  clear h hs hl
  go_enter Try.func89, Try.ntmps89
  go_wp2_with fail
  go_loopw [1, 6] (fun q i wr => ∃ (k : Nat) (Q : Int), k ≤ n ∧ i = .int .i64 ((k : Int) - 1) ∧ q = .int .i64 Q ∧ Hid (p / pr (s.drop k) = Q) ∧ Hid (wr.ownsRow w.heap.size 3 1 (.slice (some ⟨w.heap.size, 0, none⟩) n n) n ((List.replicate k (0 : Int) ++ (ixL s p).drop k).map (Value.int .i64))) ∧ Hid (Below w.heap.size w wr)) (fun _ i _ => (RowKit.intOf i + 1).toNat)
  case atStart =>
    refine ⟨n, p, Nat.le_refl _, rfl, rfl, ?_, ?_, (Below.refl _ _).alloc (Nat.le_refl _) _⟩
    · show _ = _; rw [List.drop_of_length_le (by rw [HL.out]; omega)]; simp [pr]
    · rw [List.drop_of_length_le (by rw [ixL_len, HL.out]; omega), List.append_nil]; exact HO0
  case round =>
    obtain ⟨k, Q, hk, rfl, rfl, HQ, HO, HB⟩ := hrel
    by_cases h0 : 0 < k
    · obtain ⟨j, rfl⟩ : ∃ j, k = j + 1 := ⟨k - 1, by omega⟩
      have e0 : ((j + 1 : Nat) : Int) - 1 = j := by omega
      rw [e0]
      have hj : j < n := by omega
      have hj' : (j : Int) < n := by omega
      have hL := H.out.below HB.out (Nat.le_refl _)
      obtain ⟨b1, o1, rfl, hb1, hc1⟩ := H.out.mem (by omega)
      have d1 := (HB.out.cell (p := ⟨b1, o1 + j, none⟩) hb1).trans (hc1 j hj)
      have d4 : (wr.setCell ⟨w.heap.size, j, none⟩ (.int .i64 ((ixL s p).getD j 0))).cell? ⟨b1, o1 + j, none⟩ = some (.int .i64 (s.getD j 0)) := by
        rw [World.cell?_setCell_far _ _ _ _ (by dsimp only; omega)]; exact d1
      have d2 : ∃ v, wr.cell? ⟨w.heap.size, j, none⟩ = some v := by
        rw [HO.out.cellAt j (by omega)]
        exact ⟨_, List.getElem?_eq_getElem (by have := HO.out.1; rw [this]; omega)⟩
      obtain ⟨v0, d2⟩ := d2
      have d3 := HO.out.frozenAt j
      have hx1 := HS.out j (by rw [HL.out]; omega)
      have hx2 := (hL.rng j).2
      have hq1 : 0 ≤ Q := by rw [← HQ.out]; exact Int.ediv_nonneg hp.1 (by have := pr_drop_pos HS.out (j + 1); omega)
      have hq2 : Q ≤ 1000000 := by rw [← HQ.out]; exact Int.le_trans (Int.ediv_le_self _ hp.1) hp.2
      have hix := ixL_at (s := s) (p := p) (k := j) (by rw [HL.out]; omega)
      rw [HQ.out] at hix
      have hq3 : p / pr (s.drop j) = Q / s.getD j 0 := by
        rw [pr_drop (by rw [HL.out]; omega), Int.mul_comm]
        have hd := Int.ediv_ediv (x := p) (y := pr (s.drop (j + 1))) (z := s.getD j 0)
        rw [if_neg (by have := pr_drop_pos HS.out (j + 1); omega), Int.sub_zero, HQ.out] at hd
        exact hd.symm
      have HO2 := Lib.hid ((HO.out.stored j (.int .i64 ((ixL s p).getD j 0))).1)
      have hset := set_ix (L := ixL s p) (k := j) (by rw [ixL_len, HL.out]; omega)
      rw [← List.map_set, hset] at HO2
      obtain ⟨x, HX⟩ : ∃ x, Hid (s.getD j 0 = x) := ⟨_, rfl⟩
      obtain ⟨y, HY⟩ : ∃ y, Hid ((ixL s p).getD j 0 = y) := ⟨_, rfl⟩
      rw [HX.out] at d1 d4 hx1 hx2 hix hq3
      rw [HY.out] at hix HO2 d4
      have m1 : Q.tmod x = y := by rw [hix, Int.tmod_eq_emod_of_nonneg hq1]
      have m2 : Q.tdiv x = Q / x := Int.tdiv_eq_ediv_of_nonneg hq1
      have m3 : 0 ≤ Q / x ∧ Q / x ≤ Q := ⟨Int.ediv_nonneg hq1 (by omega), Int.ediv_le_self _ hq1⟩
      have m4 : 0 ≤ y ∧ y < x := by rw [hix]; exact ⟨Int.emod_nonneg _ (by omega), Int.emod_lt_of_pos _ (by omega)⟩
      obtain ⟨Q2, HQ2⟩ : ∃ Q2, Hid (Q / x = Q2) := ⟨_, rfl⟩
      rw [HQ2.out] at m2 m3 hq3
      have HQ3 := Lib.hid hq3
      have m5 : IntKind.i64.wrap y = y := IntWalk.i64_in _ (by omega)
      have m6 : IntKind.i64.wrap Q2 = Q2 := IntWalk.i64_in _ (by omega)
      have m7 : (x == 0) = false := by simp; omega
      have m8 : ¬ x = 0 := by omega
      have m9 : IntKind.i64.wrap ((j : Int) - 1) = j - 1 := IntWalk.i64_in _ (by omega)
      have HB2 := Lib.hid (HB.out.setCell (show w.heap.size ≤ (⟨w.heap.size, j, none⟩ : Addr).block from Nat.le_refl _) (.int .i64 y))
      clear hL hc1 hb1 hx1 hx2 hq1 hq2 hix hq3 hset m3 m4 HX HY
      go_wp2
      go_roundw
      case rel => exact ⟨j, Q2, by omega, rfl, rfl, HQ3, HO2, HB2⟩
      case measure => simp [RowKit.intOf]
    · obtain rfl : k = 0 := by omega
      have hout := HO.out
      simp only [List.replicate_zero, List.nil_append, List.drop_zero] at hout
      have HF : Hid (MadeL w (ixL s p) (.returned (.slice (some ⟨w.heap.size, 0, none⟩) n n)) wr) := by
        refine ⟨_, _, _, rfl, ls_of_own hout (by omega) (fun i => ?_), hout, HB.out⟩
        by_cases hi : i < s.length
        · have h1 := ixL_rng (p := p) HS.out i hi
          have h2 := (H.out.rng i).2
          omega
        · rw [show (ixL s p).getD i 0 = 0 by simp [List.getD, ixL, hi]]; omega
      clear hout
      go_wp2
      go_ret
      exact HF.out
def atL (s : List Int) (p : Int) : List Int := if mayE s = 0 ∧ 0 ≤ p ∧ p < pr s then ixL s p else []
def atE (s : List Int) (p : Int) : Int := if mayE s = 0 then if 0 ≤ p ∧ p < pr s then 0 else 13 else mayE s
set_option maxRecDepth 100000 in
set_option maxHeartbeats 400000 in
theorem at_any {w : World} {ao : Option Addr} {n c : Nat} {s : List Int} (h : Ls w ao n c s) (p : Int) :
    Calls Try.prog 43 #[.slice ao n c, .int .i64 p] w (MadeS w (atL s p) (atE s p)) := by
  have CZ := Lib.hid (size_any h)
  by_cases hm : ¬ mayE s = 0
  · rw [show atL s p = [] by simp [atL, hm], show atE s p = mayE s by simp [atE, hm]]
    obtain ⟨e, he⟩ : ∃ v, mayE s = v := ⟨_, rfl⟩
    rw [he] at CZ hm ⊢
    have hm' : (e != 0) = true := by simpa using hm
    clear h he hm
    go_enter Try.func43, Try.ntmps43
    go_wp2_with fail
    refine CZ.out.mono ?_; rintro e' w' ⟨rfl, rfl⟩
    go_wp2
    go_ret2
    exact MadeS.nil _ (Below.refl _ _)
  have hm : mayE s = 0 := by simpa using hm
  have hz : szE s = pr s := by simp [szE, hm]
  rw [hm, hz] at CZ
  obtain ⟨g1, g2, g3⟩ := mayE_zero hm
  have hpb := pr_le s g1 s.length
  rw [List.take_length] at hpb
  have hlen := h.len
  by_cases hp : 0 ≤ p ∧ p < pr s
  · rw [show atL s p = ixL s p by simp [atL, hm, hp], show atE s p = 0 by simp [atE, hm, hp]]
    have CI := Lib.hid (fun w' (hb : Below w.heap.size w w') => indices_any (h.below hb (Nat.le_refl _)) p ⟨hp.1, by omega⟩ (by omega) (pos_all g1 (by omega)))
    obtain ⟨P, HP⟩ : ∃ P, Hid (pr s = P) := ⟨_, rfl⟩
    rw [HP.out] at CZ hp
    obtain ⟨hp1, hp2⟩ := hp
    clear h hm hz g1 g2 g3 hpb hlen
    go_enter Try.func43, Try.ntmps43
    go_wp2_with fail
    refine CZ.out.mono ?_; rintro e' w' ⟨rfl, rfl⟩
    go_wp2_with fail
    refine (CI.out _ (Below.refl _ _)).mono ?_; rintro e' w2 ⟨ao', n', c', rfl, hL, hO, hB⟩
    have HF : Hid (MadeS w' (ixL s p) 0 (.returned (.tuple #[.slice ao' n' c', .int .i64 0])) w2) := ⟨_, _, _, rfl, hL, hO, hB⟩
    clear hL hO hB
    go_wp2
    go_ret2
    exact HF.out
  · rw [show atL s p = [] by simp [atL, hp], show atE s p = 13 by simp [atE, hm, hp]]
    obtain ⟨P, HP⟩ : ∃ P, Hid (pr s = P) := ⟨_, rfl⟩
    rw [HP.out] at CZ hp
    clear h hm hz g1 g2 g3 hpb hlen
    by_cases h0 : p < 0
    · go_enter Try.func43, Try.ntmps43
      go_wp2_with fail
      refine CZ.out.mono ?_; rintro e' w' ⟨rfl, rfl⟩
      go_wp2
      go_ret2
      exact MadeS.nil _ (Below.refl _ _)
    · have h1 : P ≤ p := by omega
      go_enter Try.func43, Try.ntmps43
      go_wp2_with fail
      refine CZ.out.mono ?_; rintro e' w' ⟨rfl, rfl⟩
      go_wp2
      go_ret2
      exact MadeS.nil _ (Below.refl _ _)
end Go.Proofs.Ytdedbfbkakofgaa

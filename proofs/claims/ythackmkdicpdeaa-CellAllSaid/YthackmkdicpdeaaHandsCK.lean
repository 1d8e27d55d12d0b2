/- The hands of layer 4: listKept, and both as calls over parts. -/
import Derived.Test.YthackmkdicpdeaaHandsCL
import Derived.Test.YthackmkdicpdeaaCellAdd
namespace Go.Proofs.Ythackmkdicpdeaa
open Go.RowKit Go.Lib
set_option linter.unusedVariables false
set_option linter.unusedSimpArgs false
attribute [local go_sem] alloc_drewN setCell_drewN
section
variable {base hb : Nat} {w : World} {R : Rws} {h1 h2 : Option (Rw × Rw)} {h3 : Option Rw} {h4 : Option (List Ar × Nat × Nat)}
theorem LaidC.ars {base : Nat} {w' : World} {R : Rws} {qs : List Ar} {go oc : Nat} (h : Hold base w' R) (hl : LaidC (qs, go, oc) R) {w0 : World} {qo : Option Addr} {qn qc : Nat} (hA : Ars w0 qo qn qc qs) :
    ∃ qb : List Ar, qb.map Ar.sa2 = qs.map Ar.sa2 ∧ Ars w' (some ⟨go, 0, none⟩) qn oc qb := by
  obtain ⟨-, f, gm, q1, r2, ys, e, q2, y1, y2⟩ := hl
  simp only at q1 e q2
  have hc := h.cap e
  refine ⟨qs.zipIdx.map fun x => ⟨some ⟨(f x.2).1, 0, none⟩, x.1.sn, (f x.2).2.1, some ⟨(f x.2).2.2.1, 0, none⟩, x.1.an, (f x.2).2.2.2, x.1.s, x.1.a⟩, ?_, ?_⟩
  · rw [List.map_map]
    conv => rhs; rw [← List.zipIdx_map_fst 0 qs, List.map_map]
    rfl
  · have hg : ∀ (k : Nat) (B : Ar), (qs.zipIdx.map fun x => (⟨some ⟨(f x.2).1, 0, none⟩, x.1.sn, (f x.2).2.1, some ⟨(f x.2).2.2.1, 0, none⟩, x.1.an, (f x.2).2.2.2, x.1.s, x.1.a⟩ : Ar))[k]? = some B → ∃ A, qs[k]? = some A ∧ B = ⟨some ⟨(f k).1, 0, none⟩, A.sn, (f k).2.1, some ⟨(f k).2.2.1, 0, none⟩, A.an, (f k).2.2.2, A.s, A.a⟩ := fun k B hB => by
      rw [List.getElem?_map, List.getElem?_zipIdx] at hB
      cases hk : qs[k]? with
      | none => rw [hk] at hB; simp at hB
      | some A => rw [hk] at hB; simp at hB; exact ⟨A, rfl, hB.symm⟩
    refine ⟨by simp [hA.len], ?_, hc.2.1, fun h0 => ⟨go, 0, rfl, (h.lt e).2, fun k B hB => ?_⟩, fun k B hB => ?_⟩
    · have := hc.1; rw [hA.len] at this; omega
    · obtain ⟨A, hk, rfl⟩ := hg k B hB
      obtain ⟨p1, p2⟩ := q2 k A hk
      rw [Nat.zero_add, Nat.zero_add]
      exact ⟨h.cell e _ _ p1, h.cell e _ _ p2⟩
    · obtain ⟨A, hk, rfl⟩ := hg k B hB
      obtain ⟨p1, p2, p3, p4⟩ := q1 k A hk
      have hI := hA.all k A hk
      have l1 : A.s.length = A.sn := hI.shp.len
      have l2 : A.a.length = A.an := hI.ats.len
      have k1 := ls_laid4 h p3 (by omega) (by rw [l1]; exact hI.shp.big) hI.shp.rng
      have k2 := ls_laid4 h p4 (by omega) (by rw [l2]; exact hI.ats.big) hI.ats.rng
      rw [l1] at k1
      rw [l2] at k2
      exact ⟨k1, k2⟩
/-- The first i hands are looked through and written over. -/
def KeptI4 (base : Nat) (w1 : World) (R1 : Rws) (M i : Nat) (wx : World) : Prop :=
  ∃ R' : Rws, Hold base wx R' ∧ (∀ k c, i ≤ k → R' (1, k, c) = R1 (1, k, c)) ∧ (∀ k c, (R' (1, k, c)).v = (R1 (1, k, c)).v) ∧ (∀ k, k < M → FullE 3 (R' (1, k, 0)) ∧ FullE 2 (R' (1, k, 1))) ∧ (∀ t, t.1 ≠ 1 → R' t = R1 t) ∧ Below base w1 wx
theorem KeptI4.via {w1 wx wy : World} {R1 : Rws} {M i : Nat} (h : KeptI4 base w1 R1 M i wx) (hb : Below wx.heap.size wx wy) : KeptI4 base w1 R1 M i wy := by
  obtain ⟨R', h1, h2, h3, h4, h5, h6⟩ := h
  exact ⟨R', h1.via hb, h2, h3, h4, h5, h6.trans (hb.mono h1.base)⟩
theorem KeptI4.step {w1 wx wy : World} {R1 R' R2 : Rws} {M i : Nat} (g1 : Hold base wx R') (g2 : ∀ k c, i ≤ k → R' (1, k, c) = R1 (1, k, c)) (g3 : ∀ k c, (R' (1, k, c)).v = (R1 (1, k, c)).v) (g4 : ∀ k, k < M → FullE 3 (R' (1, k, 0)) ∧ FullE 2 (R' (1, k, 1))) (g5 : ∀ t, t.1 ≠ 1 → R' t = R1 t) (g6 : Below base w1 wx)
    {ho ao : Option Addr} {hm d : Nat} {S1 S2 : List Int} (hH : Hold base wy R2) (r1 : R2 (1, i, 0) = ⟨3, 1, ho, hm, hm, S1.map (Value.int .i64)⟩) (r2 : R2 (1, i, 1) = ⟨2, 1, ao, d, d, S2.map (Value.int .i64)⟩)
    (e1 : (R1 (1, i, 0)).v = .slice ho hm hm) (e2 : (R1 (1, i, 1)).v = .slice ao d d) (rN : ∀ t, t ≠ (1, i, 0) → t ≠ (1, i, 1) → R2 t = R' t) (hB : Below base wx wy) : KeptI4 base w1 R1 M (i + 1) wy := by
  have q : ∀ k c, k ≠ i → R2 (1, k, c) = R' (1, k, c) := fun k c hk => rN _ (by simpa using fun e => absurd e hk) (by simpa using fun e => absurd e hk)
  refine ⟨R2, hH, fun k c hk => by rw [q k c (by omega)]; exact g2 k c (by omega), fun k c => ?_, fun k hk => ?_, fun t ht => ?_, g6.trans hB⟩
  · by_cases e : k = i
    · subst e
      match c with
      | 0 => rw [r1, e1]; rfl
      | 1 => rw [r2, e2]; rfl
      | c + 2 => rw [rN _ (by simp) (by simp)]; exact g3 k _
    · rw [q k c e]; exact g3 k c
  · by_cases e : k = i
    · subst e; exact ⟨⟨_, _, _, r1⟩, ⟨_, _, _, r2⟩⟩
    · rw [q k _ e, q k _ e]; exact g4 k hk
  · rw [rN t (fun e => ht (by rw [e])) (fun e => ht (by rw [e]))]; exact g5 t ht
theorem KeptI4.done {R1 R' : Rws} {M : Nat} (b1 : HnC hb h1 h2 h3 h4 R1) (m1 : ManyN R1 M) (g3 : ∀ k c, (R' (1, k, c)).v = (R1 (1, k, c)).v) (g4 : ∀ k, k < M → FullE 3 (R' (1, k, 0)) ∧ FullE 2 (R' (1, k, 1))) (g5 : ∀ t, t.1 ≠ 1 → R' t = R1 t)
    {og on oc : Nat} {ys : List Value} (r5 : R1 (0, 5, 0) = ⟨45, 2, some ⟨og, 0, none⟩, on, oc, ys⟩) (ys' : List Value) :
    HnC hb h1 h2 h3 none (updR R' (0, 5, 0) ⟨45, 2, some ⟨og, 0, none⟩, on, oc, ys'⟩) ∧ KeepC R1 (updR R' (0, 5, 0) ⟨45, 2, some ⟨og, 0, none⟩, on, oc, ys'⟩) := by
  have hk : KeepC R1 (updR R' (0, 5, 0) ⟨45, 2, some ⟨og, 0, none⟩, on, oc, ys'⟩) := fun t a1 a2 a3 a4 a5 => by rw [updR_ne a3]; exact g5 t a4
  have hm : ManyN (updR R' (0, 5, 0) ⟨45, 2, some ⟨og, 0, none⟩, on, oc, ys'⟩) M := by
    obtain ⟨mo, mc, e, hf⟩ := m1
    refine ⟨mo, mc, ?_, fun k hk => by rw [updR_ne (by simp), updR_ne (by simp)]; exact g4 k hk⟩
    rw [updR_ne (by simp), g5 _ (by simp), e]
    congr 1
    exact pairL_congr fun k hk => by rw [updR_ne (by simp), updR_ne (by simp), g3, g3]; exact ⟨rfl, rfl⟩
  refine ⟨b1.with4 hk ?_ hm.any ⟨_, _, _, _, updR_eq⟩ none (fun l e => by cases e), hk⟩
  have hob := b1.obj
  rw [updR_ne (by simp), g5 _ (by simp), hob, updR_eq, updR_ne (by simp), g5 (0, 4, 0) (by simp), r5]; rfl
theorem ManyC.withN {R : Rws} (h : ManyC R) : ManyN R (R (0, 4, 0)).n := by
  obtain ⟨m, hm⟩ := h.num
  have hm' := hm
  obtain ⟨mo, mc, e, -⟩ := hm'
  rw [e]; exact hm
theorem lsZ (w : World) : Ls w none 0 0 [] := ⟨rfl, Nat.le_refl _, by decide, by simp, fun h => absurd h (by simp), fun i => by simp [List.getD]⟩
theorem lit77 {w : World} {T : TypeId} : Ls (w.alloc (.cells #[.int .i64 (-77)] T)) (some ⟨w.heap.size, 0, none⟩) 1 1 [-77] := by
  have h := ls_alloc w [-77] T (by simp) (fun i => by cases i with | zero => exact ⟨by decide, by decide⟩ | succ k => simp [List.getD])
  simpa using h
theorem eq4_self {w : World} {A B : Ar} (hA : A.Is w) (hB : B.Is w) (hs : A.s = B.s) (ha : A.a = B.a) : Calls Try.prog 30 #[A.v, B.v] w (RetB w (.bool true)) := by
  have h := eq4_any hA hB
  rwa [decide_eq_true ⟨hs, ha⟩] at h
set_option maxRecDepth 100000 in
set_option maxHeartbeats 6400000 in
theorem listcKept_hold {w1 : World} {R1 : Rws} {qs : List Ar} (hh1 : Hold base w1 R1) {og oc : Nat} (b1 : HnC hb h1 h2 h3 (some (qs, og, oc)) R1) {w0 : World} {la : Option Addr} {n lc : Nat} (hA : Ars w0 la n lc qs) (h0 : w0.heap.size ≤ base) (hb0 : Below base w0 w1) :
    Calls Try.prog 47 #[.pointer (some ⟨hb, 0, none⟩), .slice la n lc] w1 (fun e w' => e = .returned (.bool true) ∧ ∃ R' : Rws, Hold base w' R' ∧ HnC hb h1 h2 h3 none R' ∧ KeepC R1 R' ∧ Below base w1 w') := by
  obtain ⟨hM, f, gm, q1, r2, ys, r5, q2, y1, y2⟩ := b1.k4 _ rfl
  simp only at hM q1 r5 q2 y1 y2
  have m1 := b1.many.withN
  rw [hA.len] at hM r5 y1 y2
  obtain ⟨M', HM'⟩ : ∃ z, Hid ((R1 (0, 4, 0)).n = z) := ⟨_, rfl⟩
  rw [HM'.out] at m1 hM
  have M1N := Lib.hid m1
  obtain ⟨mo, mc, l3, hfl⟩ := m1
  have hob := b1.obj
  rw [l3, r5] at hob
  simp only [Rw.v] at hob
  have HC : Hid (∀ wx, Below base w1 wx → Hold base wx R1 → wx.cell? ⟨hb, 6, none⟩ = some (.slice (some ⟨og, 0, none⟩) (n + 1) oc) ∧ wx.cell? ⟨og, n * 2, none⟩ = some (.slice none 0 0) ∧ wx.cell? ⟨og, n * 2 + 1, none⟩ = some (.slice (some ⟨gm, 0, none⟩) 1 1)) := fun wx hb h => ⟨h.cell hob 6 _ rfl, h.cell r5 (n * 2) _ y1, h.cell r5 (n * 2 + 1) _ y2⟩
  have H1 := Lib.hid hh1
  have B1 := Lib.hid b1
  have HM := Lib.hid hM
  have R5 := Lib.hid r5
  have HQ1 := Lib.hid q1
  have HQ2 := Lib.hid q2
  have L3 := Lib.hid l3
  have HFL := Lib.hid hfl
  have HOB := Lib.hid hob
  have HL0 := Lib.hid hA
  have HB0 := Lib.hid (And.intro h0 hb0)
  have hoc := (hh1.cap r5).1
  have hoc2 : oc ≤ 9223372036854775807 := by have := (hh1.cap r5).2.1; unfold maxLen at this; omega
  obtain ⟨c3, cn, cm⟩ := HC.out w1 (Below.refl _ _) hh1
  have z1 : (n : Int) < n + 1 := by omega
  have KM : Hid (Ls (w1.alloc (.cells #[.int .i64 (-77)] 2)) (some ⟨gm, 0, none⟩) 1 1 [-77]) := (hh1.ls (zs := [-77]) r2 (by omega) (fun i => by cases i with | zero => exact ⟨by decide, by decide⟩ | succ k => simp [List.getD])).via (abal w1 _)
  have CE1 := Lib.hid (eq4_self (w := w1.alloc (.cells #[.int .i64 (-77)] 2)) (A := ⟨none, 0, 0, some ⟨gm, 0, none⟩, 1, 1, [], [-77]⟩) (B := ⟨none, 0, 0, some ⟨w1.heap.size, 0, none⟩, 1, 1, [], [-77]⟩) ⟨lsZ _, KM.out⟩ ⟨lsZ _, lit77⟩ rfl rfl)
  simp only [Ar.v] at CE1
  clear hh1 b1 hM r5 q1 q2 y1 y2 r2 l3 hob hA h0 hb0 hfl KM
  go_enter Try.func47, Try.ntmps47
  go_wp2_with fail
  refine CE1.out.mono ?_; rintro e w2 ⟨rfl, hbx2⟩
  have hb2 : Below w1.heap.size w1 w2 := abvia (abal w1 (.cells #[.int .i64 (-77)] 2)) hbx2
  have HKP : Hid (KeptI4 base w1 R1 M' 0 w2) := ⟨R1, H1.out.via hb2, fun _ _ _ => rfl, fun _ _ => rfl, HFL.out, fun _ _ => rfl, hb2.mono H1.out.base⟩
  clear c3 cn cm hb2 hbx2 CE1
  go_wp2_with fail
  go_loopw [6, 7, 8] (fun v6 v7 v8 wx => ∃ i : Nat, i ≤ n ∧ v6 = .bool true ∧ v7 = .int .i64 i ∧ Hid (KeptI4 base w1 R1 M' i wx)) (fun _ v7 _ _ => n - (RowKit.intOf v7).toNat)
  case atStart => exact ⟨0, Nat.zero_le _, rfl, rfl, HKP⟩
  case round =>
    clear HKP
    obtain ⟨i, hi, rfl, rfl, HI⟩ := hrel
    obtain ⟨R', hh1, g2, g3, g4, g5, hBx⟩ := HI.out
    have hob' : R' (0, 0, 0) = _ := (g5 (0, 0, 0) (by simp)).trans HOB.out
    have r5' : R' (0, 5, 0) = _ := (g5 (0, 5, 0) (by simp)).trans R5.out
    have l3' : R' (0, 4, 0) = _ := (g5 (0, 4, 0) (by simp)).trans L3.out
    by_cases hlt : i < n
    · have hlt' : (i : Int) < n := by omega
      have hlt2 : (i : Int) < n + 1 := by omega
      obtain ⟨lb, lo, rfl, hlb, hcs⟩ := HL0.out.mem (by omega)
      obtain ⟨A, hAi⟩ : ∃ A, qs[i]? = some A := ⟨_, List.getElem?_eq_getElem (by rw [HL0.out.len]; exact hlt)⟩
      obtain ⟨dl0, dl1⟩ := hcs i A hAi
      have hAI := HL0.out.all i A hAi
      obtain ⟨u1, u2, u3, u4⟩ := HQ1.out i A hAi
      obtain ⟨u5, u6⟩ := HQ2.out i A hAi
      obtain ⟨sa, sn, sc, aa, an, ac, s, a⟩ := A
      simp only at dl0 dl1 u1 u2 u3 u4 u5 u6
      rw [← Nat.add_assoc] at dl1
      simp only [laid4] at u3 u4
      have hBw : Below base w0 wr := HB0.out.2.trans hBx
      obtain ⟨gi, HGI⟩ : ∃ z, Hid ((f i).1 = z) := ⟨_, rfl⟩
      obtain ⟨di, HDI⟩ : ∃ z, Hid ((f i).2.1 = z) := ⟨_, rfl⟩
      obtain ⟨ei, HEI⟩ : ∃ z, Hid ((f i).2.2.1 = z) := ⟨_, rfl⟩
      obtain ⟨ki, HKI⟩ : ∃ z, Hid ((f i).2.2.2 = z) := ⟨_, rfl⟩
      rw [HGI.out, HDI.out] at u3 u5
      rw [HEI.out, HKI.out] at u4 u6
      rw [HDI.out] at u1
      rw [HKI.out] at u2
      have e3 := (g2 i 0 (Nat.le_refl _)).trans u3
      have e4 := (g2 i 1 (Nat.le_refl _)).trans u4
      have d2 : wr.cell? ⟨hb, 5, none⟩ = some (.slice mo M' mc) := hh1.cell hob' 5 _ rfl
      have d3 : wr.cell? ⟨hb, 6, none⟩ = some (.slice (some ⟨og, 0, none⟩) (n + 1) oc) := hh1.cell hob' 6 _ rfl
      have di0 : wr.cell? ⟨og, i * 2, none⟩ = some (.slice (some ⟨gi, 0, none⟩) sn di) := hh1.cell r5' (i * 2) _ u5
      have di1 : wr.cell? ⟨og, i * 2 + 1, none⟩ = some (.slice (some ⟨ei, 0, none⟩) an ki) := hh1.cell r5' (i * 2 + 1) _ u6
      have HDL : Hid (∀ wx, Below base wr wx → wx.cell? ⟨lb, lo + i * 2, none⟩ = some (.slice sa sn sc) ∧ wx.cell? ⟨lb, lo + i * 2 + 1, none⟩ = some (.slice aa an ac)) := fun wx hb => ⟨((hBw.trans hb).cell (p := ⟨lb, lo + i * 2, none⟩) (Nat.lt_of_lt_of_le hlb HB0.out.1)).trans dl0, ((hBw.trans hb).cell (p := ⟨lb, lo + i * 2 + 1, none⟩) (Nat.lt_of_lt_of_le hlb HB0.out.1)).trans dl1⟩
      obtain ⟨dl, dm⟩ := HDL.out wr (Below.refl _ _)
      have l1 : s.length = sn := hAI.shp.len
      have l2 : a.length = an := hAI.ats.len
      have hlx : Ar.Is ⟨some ⟨gi, 0, none⟩, sn, di, some ⟨ei, 0, none⟩, an, ki, s, a⟩ wr := by
        have k1 := ls_laid4 hh1 e3 (by omega) (by rw [l1]; exact hAI.shp.big) hAI.shp.rng
        have k2 := ls_laid4 hh1 e4 (by omega) (by rw [l2]; exact hAI.ats.big) hAI.ats.rng
        rw [l1] at k1
        rw [l2] at k2
        exact ⟨k1, k2⟩
      have hly := hAI.below hBw HB0.out.1
      have CE := Lib.hid (eq4_self (hlx.via (adrew1 wr)) (hly.via (adrew1 wr)) rfl rfl)
      simp only [Ar.v] at CE
      obtain ⟨mb, rfl⟩ := (hh1.cap l3').2.2.2.2 (by have := (hh1.cap l3').1; have := HM.out; omega)
      have hmi : (i : Int) < M' := by have := HM.out; omega
      have HI' := Lib.hid (And.intro hh1 (And.intro hob' (And.intro r5' (And.intro l3' (And.intro hBx (And.intro hBw (g5 (9, 9, 0) (by simp))))))))
      have U5 := Lib.hid u5
      have U6 := Lib.hid u6
      have G2 := Lib.hid g2
      have G3 := Lib.hid g3
      have G4 := Lib.hid g4
      have G5 := Lib.hid g5
      have E3 := Lib.hid e3
      have E4 := Lib.hid e4
      have U3 := Lib.hid u3
      have U4 := Lib.hid u4
      have HLS := Lib.hid hAI
      have HOC := Lib.hid hoc
      clear hh1 hob' r5' l3' hBx hBw g2 g3 g4 g5 e3 e4 hlx hly hAI hlb hcs dl0 dl1 u1 u2 u3 u4 u5 u6 l1 l2 HI hAi
      go_upto_region 6 with fail
      go_region_held3 (fun wx => wx.cell? ⟨hb, 6, none⟩ = some (.slice (some ⟨og, 0, none⟩) (n + 1) oc) ∧ wx.cell? ⟨og, i * 2, none⟩ = some (.slice (some ⟨gi, 0, none⟩) sn di) ∧ wx.cell? ⟨og, i * 2 + 1, none⟩ = some (.slice (some ⟨ei, 0, none⟩) an ki) ∧ wx.cell? ⟨lb, lo + i * 2, none⟩ = some (.slice sa sn sc) ∧ wx.cell? ⟨lb, lo + i * 2 + 1, none⟩ = some (.slice aa an ac)) (go_keep)
        (first
        | (go_at_call 30; (with_reducible refine Calls.mono CE.out ?_); rintro e w5 ⟨rfl, hb5⟩; have HB5 := Lib.hid (abvia (adrew1 wr) hb5); have H5 := Lib.hid (HI'.out.1.via HB5.out); clear hb5 d2 d3 di0 di1 dl dm; have d2 : w5.cell? ⟨hb, 5, none⟩ = some (.slice (some ⟨mb, 0, none⟩) M' mc) := H5.out.cell HI'.out.2.1 5 _ rfl; have d3 : w5.cell? ⟨hb, 6, none⟩ = some (.slice (some ⟨og, 0, none⟩) (n + 1) oc) := H5.out.cell HI'.out.2.1 6 _ rfl; have di0 : w5.cell? ⟨og, i * 2, none⟩ = some (.slice (some ⟨gi, 0, none⟩) sn di) := H5.out.cell HI'.out.2.2.1 (i * 2) _ U5.out; have di1 : w5.cell? ⟨og, i * 2 + 1, none⟩ = some (.slice (some ⟨ei, 0, none⟩) an ki) := H5.out.cell HI'.out.2.2.1 (i * 2 + 1) _ U6.out; obtain ⟨dl, dm⟩ := HDL.out w5 (HB5.out.mono HI'.out.1.base)))
      obtain ⟨p1, p2⟩ := pairL_at (m := M') (i := i) (fun k => (R1 (1, k, 0)).v) (fun k => (R1 (1, k, 1)).v) (by have := HM.out; omega)
      rw [U3.out] at p1
      rw [U4.out] at p2
      have CK := Lib.hid (kept4_any (H5.out.via (adrew1 w5)) (tp := (0, 4, 0)) (tr := (1, i, 0)) (ta := (1, i, 1)) (j := i * 2) (by simp) (by simp) (by rw [HI'.out.2.2.2.2.2.2]; exact B1.out.n9.1) HI'.out.2.2.2.1 p1 E3.out p2 E4.out (A := ⟨sa, sn, sc, aa, an, ac, s, a⟩) (fun wx hb => HLS.out.below ((HI'.out.2.2.2.2.2.1.trans (HB5.out.mono HI'.out.1.base)).trans ((Below.refl _ _).drew.trans hb)) HB0.out.1) (mkd_good _ _ _) (mkd_good _ _ _))
      simp only [Ar.v] at CK
      clear d3 di0 di1 p1 p2
      go_upto_region 7 with fail
      go_region_held3 (fun wx => wx.cell? ⟨hb, 5, none⟩ = some (.slice (some ⟨mb, 0, none⟩) M' mc) ∧ wx.cell? ⟨lb, lo + i * 2, none⟩ = some (.slice sa sn sc) ∧ wx.cell? ⟨lb, lo + i * 2 + 1, none⟩ = some (.slice aa an ac)) (go_keep)
        (first
        | (go_at_call 36; (with_reducible refine Calls.mono CK.out ?_); rintro e w6 ⟨rfl, R6, T1, T2, hH6, s1, s2, sN, hB6⟩; clear d2 dl dm; have d2 := hH6.cell ((sN (0, 0, 0) (by simp) (by simp)).trans HI'.out.2.1) 5 _ rfl; obtain ⟨dl, dm⟩ := HDL.out w6 ((HB5.out.mono HI'.out.1.base).trans ((Below.refl _ _).drew.trans hB6))))
      have HST : Hid (KeptI4 base w1 R1 M' (i + 1) w6) := KeptI4.step HI'.out.1 G2.out G3.out G4.out G5.out HI'.out.2.2.2.2.1 hH6 s1 s2 (by rw [U3.out]; rfl) (by rw [U4.out]; rfl) sN ((HB5.out.mono HI'.out.1.base).trans ((Below.refl _ _).drew.trans hB6))
      clear hH6 s1 s2 sN hB6 d2 dl dm
      go_wp2
      go_roundw
      case rel => exact ⟨i + 1, by omega, by first | rfl | simp, by go_num, HST⟩
      case measure => simp [RowKit.intOf]; omega
    · have hge : (n : Int) ≤ i := by omega
      obtain rfl : i = n := by omega
      have HLP : Hid (∃ ys' : List Value, Hold base wr (updR R' (0, 5, 0) ⟨45, 2, some ⟨og, 0, none⟩, i + 1, oc, ys'⟩) ∧ Below base w1 wr) := ⟨ys, by rw [updS_self r5']; exact hh1, hBx⟩
      have HQ := Lib.hid (And.intro g3 (And.intro g4 g5))
      clear hh1 g2 g3 g4 g5 hBx HI hob' r5' l3'
      go_wp2_with fail
      go_loopw [9] (fun v9 wx => ∃ j : Nat, j ≤ i + 1 ∧ v9 = .int .i64 j ∧ Hid (∃ ys' : List Value, Hold base wx (updR R' (0, 5, 0) ⟨45, 2, some ⟨og, 0, none⟩, i + 1, oc, ys'⟩) ∧ Below base w1 wx)) (fun v9 _ => i + 1 - (RowKit.intOf v9).toNat)
      case atStart => exact ⟨0, Nat.zero_le _, rfl, HLP⟩
      case round =>
        clear HLP
        obtain ⟨j, hj, rfl, HJ⟩ := hrel
        obtain ⟨ys', hh1, hBx⟩ := HJ.out
        have hob5 := (updR_ne (R := R') (r := ⟨45, 2, some ⟨og, 0, none⟩, i + 1, oc, ys'⟩) (show ((0, 0, 0) : Nat × Nat × Nat) ≠ (0, 5, 0) by simp)).trans ((HQ.out.2.2 (0, 0, 0) (by simp)).trans HOB.out)
        have d3 : wr.cell? ⟨hb, 6, none⟩ = some (.slice (some ⟨og, 0, none⟩) (i + 1) oc) := hh1.cell hob5 6 _ rfl
        by_cases hlj : j < i + 1
        · have hlj' : (j : Int) < i + 1 := by omega
          have hyl : j * 2 + 1 < ys'.length := by have := (hh1.cap updR_eq).2.2.1; omega
          have t5 := hh1.cell updR_eq (j * 2) _ (List.getElem?_eq_getElem (by omega))
          have t6 := hh1.frozen updR_eq (j * 2)
          have t7 := hh1.cell updR_eq (j * 2 + 1) _ (List.getElem?_eq_getElem hyl)
          have t8 := hh1.frozen updR_eq (j * 2 + 1)
          have hP := (hh1.put updR_eq (j * 2) (.slice none 0 0)).put updR_eq (j * 2 + 1) (.slice none 0 0)
          have hPB := (hh1.putB updR_eq (j * 2) (.slice none 0 0)).trans ((hh1.put updR_eq (j * 2) (.slice none 0 0)).putB updR_eq (j * 2 + 1) (.slice none 0 0))
          rw [updS_two, updS_two] at hP
          have HP : Hid (∃ ys'' : List Value, Hold base ((wr.setCell ⟨og, j * 2, none⟩ (.slice none 0 0)).setCell ⟨og, j * 2 + 1, none⟩ (.slice none 0 0)) (updR R' (0, 5, 0) ⟨45, 2, some ⟨og, 0, none⟩, i + 1, oc, ys''⟩) ∧ Below base w1 ((wr.setCell ⟨og, j * 2, none⟩ (.slice none 0 0)).setCell ⟨og, j * 2 + 1, none⟩ (.slice none 0 0))) := ⟨_, hP, hBx.trans hPB⟩
          clear hP hPB hh1 hBx hob5
          go_wp2
          go_roundw
          case rel => exact ⟨j + 1, by omega, by go_num, HP⟩
          case measure => simp [RowKit.intOf]; omega
        · have hge : ((i : Int) + 1) ≤ j := by omega
          have HF : Hid (∃ R' : Rws, Hold base wr R' ∧ HnC hb h1 h2 h3 none R' ∧ KeepC R1 R' ∧ Below base w1 wr) := by
            obtain ⟨a1, a2, a3⟩ := HQ.out
            obtain ⟨p1, p2⟩ := KeptI4.done B1.out M1N.out a1 a2 a3 R5.out ys'
            exact ⟨_, hh1, p1, p2, hBx⟩
          clear hh1 hBx hob5
          go_wp2
          go_ret
          exact ⟨rfl, HF.out⟩
end
section
variable {w0 w : World} {L : List Pt} {i hb : Nat} {h1 h2 : Option (Rw × Rw)} {h3 : Option Rw} {h4 : Option (List Ar × Nat × Nat)}
theorem KeepC.big {R R' : Rws} (h : KeepC R R') : ∀ t : Nat × Nat × Nat, 100 ≤ t.1 → R' t = R t := fun t ht =>
  h t (fun e => by rw [e] at ht; simp at ht) (fun e => by rw [e] at ht; simp at ht) (fun e => by rw [e] at ht; simp at ht) (by omega) (by omega)
theorem Sp.listC (H : Sp Non w0 w L) (e : L[i]? = some (Pt.hands hb h1 h2 h3 h4)) {qo : Option Addr} {qn qc : Nat} {qs : List Ar} (hA : Ars w0 qo qn qc qs) (hbig : qn * 48 ≤ 140737488351232) :
    Calls Try.prog 46 #[.pointer (some ⟨hb, 0, none⟩), .slice qo qn qc] w (fun e w' => ∃ gl dl, e = .returned (.slice (some ⟨gl, 0, none⟩) qn dl) ∧ Sp Non w0 w' (L.set i (Pt.hands hb h1 h2 h3 (some (qs, gl, dl))))) := by
  have hbel := H.belowN
  obtain ⟨R, h, b, put⟩ := H.handsOpen e
  refine (listc_hold h b hA (Nat.le_refl _) hbel hbig).mono ?_
  rintro e w' ⟨og, oc, rfl, hI⟩
  obtain ⟨R', ys, hH, hn, r5, hk, hB⟩ := hI.laid hA.len
  exact ⟨og, oc, rfl, put w' R' _ _ _ _ hH hB hk.big hn⟩
/-- The list in the hands, as it reads. -/
theorem Sp.arsL {qs : List Ar} {gl dl : Nat} (H : Sp Non w0 w L) (e : L[i]? = some (Pt.hands hb h1 h2 h3 (some (qs, gl, dl)))) {w1 : World} {qo : Option Addr} {qn qc : Nat} (hA : Ars w1 qo qn qc qs) :
    ∃ qb : List Ar, qb.map Ar.sa2 = qs.map Ar.sa2 ∧ Ars w (some ⟨gl, 0, none⟩) qn dl qb := by
  obtain ⟨R, h, b, -⟩ := H.handsOpen e
  exact (b.k4 _ rfl).ars h hA
theorem Sp.keptL {qs : List Ar} {gl dl : Nat} (H : Sp Non w0 w L) (e : L[i]? = some (Pt.hands hb h1 h2 h3 (some (qs, gl, dl)))) {qo : Option Addr} {qn qc : Nat} (hA : Ars w0 qo qn qc qs) :
    Calls Try.prog 47 #[.pointer (some ⟨hb, 0, none⟩), .slice qo qn qc] w (fun e w' => e = .returned (.bool true) ∧ Sp Non w0 w' (L.set i (Pt.hands hb h1 h2 h3 none))) := by
  have hbel := H.belowN
  obtain ⟨R, h, b, put⟩ := H.handsOpen e
  refine (listcKept_hold h b hA (Nat.le_refl _) hbel).mono ?_
  rintro e w' ⟨rfl, R', hH, hn, hk, hB⟩
  exact ⟨rfl, put w' R' _ _ _ _ hH hB hk.big hn⟩
/-- What lies in the second hand lies outside all other parts. -/
theorem Sp.offY {s a : List Int} {g d g2 d2 : Nat} {F : Nat → Prop} (h : ∃ G, (Pt.hands hb h1 (some (laid4 s a g d g2 d2)) h3 h4).P w G ∧ ∀ k, G k → ¬ F k) (sn an : Nat) : Ar.Off ⟨some ⟨g, 0, none⟩, sn, d, some ⟨g2, 0, none⟩, an, d2, s, a⟩ F := by
  obtain ⟨G, ⟨R, c1, c2, c3, c4, c5⟩, hG⟩ := h
  obtain ⟨k1, k2⟩ := c1.k2 _ rfl
  refine ⟨fun _ k hk => hG k ((c5 k).2 ⟨(0, 2, 0), ?_⟩), fun _ k hk => hG k ((c5 k).2 ⟨(0, 2, 1), ?_⟩)⟩
  · rw [k1]; exact hk
  · rw [k2]; exact hk
end
end Go.Proofs.Ythackmkdicpdeaa

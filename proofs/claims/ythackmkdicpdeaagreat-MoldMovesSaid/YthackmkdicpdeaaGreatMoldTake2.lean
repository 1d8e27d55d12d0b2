/- Contracts of mold.taken, take, drop and rotate. -/
import Derived.Test.YthackmkdicpdeaaGreatMoldTake1
namespace Go.Proofs.YthackmkdicpdeaaGreat
open Go.RowKit Go.Lib
set_option linter.unusedVariables false
set_option linter.unusedSimpArgs false
attribute [local go_sem] alloc_drewN setCell_drewN
/-- The lengths of an array that numbers are taken of: of a scalar as many ones. -/
def tkY (n : Nat) (s : List Int) : List Int := if s.length = 0 then List.replicate n 1 else s
def tkOk (n : Nat) (s : List Int) : Bool := decide (s.length = 0 ∨ n ≤ s.length)
def TakenP (w : World) (n : Nat) (ta : Option Addr) (tn tc : Nat) (s : List Int) (bo : Option Addr) (bn bc : Nat) (e : Ending) (w' : World) : Prop :=
  ∃ (ro : Option Addr) (rn rc : Nat) (P0 : Pt), e = .returned (.tuple #[.agg #[.slice ro rn rc, .slice bo bn bc], .bool (tkOk n s)]) ∧ Sp Non w w' [P0] ∧ ∀ w'' F, Ls w'' ta tn tc s → P0.P w'' F → Ls w'' ro rn rc (tkY n s)
set_option maxRecDepth 100000 in
set_option maxHeartbeats 3200000 in
theorem taken_any {w : World} {X Y : Ar} (hX : X.Is w) (hY : Y.Is w) (hxn : X.an ≤ 4096) : Calls Tryz.prog 143 #[X.v, Y.v] w (TakenP w X.an Y.sa Y.sn Y.sc Y.s Y.aa Y.an Y.ac) := by
  obtain ⟨sa, sn, sc, aa, an, ac, s, a⟩ := X
  obtain ⟨ta, tn, tc, ba, bn, bc, t, b⟩ := Y
  simp only [Ar.v]
  simp only at hxn
  have htl : t.length = tn := hY.shp.len
  obtain ⟨W, HW⟩ : ∃ z, Hid (((w.alloc (.cells #[.slice sa sn sc, .slice aa an ac] 38)).alloc (.cells #[.slice ta tn tc, .slice ba bn bc] 38)).alloc (.cells #[.slice none 0 0, .slice none 0 0] 38) = z) := ⟨_, rfl⟩
  have h0 := (((Sp.start Non w).alloc 38 2 1 #[.slice sa sn sc, .slice aa an ac] rfl (by decide)).alloc 38 2 1 #[.slice ta tn tc, .slice ba bn bc] rfl (by decide)).alloc 38 2 1 #[.slice none 0 0, .slice none 0 0] rfl (by decide)
  rw [HW.out] at h0
  have H1_ := h0
  try simp only [List.cons_append, List.nil_append, List.set_cons_zero, List.set_cons_succ, List.map_cons, List.map_nil, List.getD_cons_zero, List.getD_cons_succ, World.size_alloc] at H1_
  have H1 := Lib.hid H1_
  clear H1_
  obtain ⟨b1, HB1⟩ : ∃ z, Hid (w.heap.size = z) := ⟨_, rfl⟩
  rw [HB1.out] at H1
  have HY := Lib.hid hY
  have y0 := H1.out.cell (i := 0) rfl 1 _ rfl
  have y1 := H1.out.cell (i := 1) rfl 0 _ rfl
  have y2 := H1.out.cell (i := 1) rfl 1 _ rfl
  clear hX hY h0
  by_cases h0 : tn = 0
  · subst h0
    have HOK : Hid (tkOk an t = true) := by show _ = _; simp [tkOk, htl]
    have hty : tkY an t = List.replicate an 1 := if_pos htl
    have HTY : Hid (∀ w' so sc, Sp Non w w' [Pt.ints 3 so an sc (List.replicate an 1)] → TakenP w an ta 0 tc t ba bn bc (.returned (.tuple #[.agg #[.slice so an sc, .slice ba bn bc], .bool true])) w') := fun w' so sc h =>
      ⟨so, an, sc, _, by rw [HOK.out], h, fun w'' F _ hP => by rw [hty]; exact (Sp.one hP).ls (i := 0) rfl⟩
    have H3_ := (H1.out.alloc 3 1 1 #[.int .i64 1] rfl (by decide)).via (adrew1 _)
    try simp only [List.cons_append, List.nil_append, List.set_cons_zero, List.set_cons_succ, List.map_cons, List.map_nil, List.getD_cons_zero, List.getD_cons_succ, World.size_alloc] at H3_
    have H3 := Lib.hid H3_
    clear H3_
    have CR := Lib.hid (repeat_one (N := an) (H3.out.rlt (i := 3) rfl).1 (H3.out.cell (i := 3) rfl 0 _ rfl) (by omega))
    have n1 : ¬ b1 + 1 + 1 = b1 := by omega
    have n2 : ¬ b1 = b1 + 1 + 1 := by omega
    clear htl hty HOK
    go_enter Tryz.func143, Tryz.ntmps143
    go_upto_region 2 with fail
    rw [HW.out, HB1.out]
    go_region_held3 (fun w'' => w''.cell? ⟨b1, 1, none⟩ = some (.slice aa an ac) ∧ w''.cell? ⟨b1 + 1, 1, none⟩ = some (.slice ba bn bc)) (go_keep)
      (first
      | (go_at_call 130; (with_reducible refine Calls.mono CR.out ?_); rintro e w5 ⟨ro, rn, rc, rfl, hL5, hO5, hB5⟩; have h5 := H3.out.intsNew hO5 hB5 hL5.big hL5.rng; clear y0 y1 y2; have y0 := h5.cell (i := 0) rfl 1 _ rfl; have y2 := h5.cell (i := 1) rfl 1 _ rfl; have x0 := h5.cell (i := 2) rfl 0 _ rfl; have x1 := h5.cell (i := 2) rfl 1 _ rfl; have f0 := h5.frozen (i := 2) rfl 0; have f1 := h5.frozen (i := 2) rfl 1))
    all_goals
      obtain rfl : rn = an := by have h1 := hL5.len; rw [List.length_replicate] at h1; exact h1.symm
      have HF : Hid (∀ u v, TakenP w rn ta 0 tc t ba bn bc (.returned (.tuple #[.agg #[.slice ro rn rc, .slice ba bn bc], .bool true])) ((w5.setCell ⟨b1 + 1 + 1, 0, none⟩ u).setCell ⟨b1 + 1 + 1, 1, none⟩ v)) := fun u v =>
        HTY.out _ _ _ (((h5.put (i := 2) rfl 0 u).put (i := 2) rfl 1 v).pick [4] (by decide))
      clear h5 hL5 hO5 hB5
      go_wp2
      exact bodyPost_ret (v := .tuple #[.agg #[.slice ro rn rc, .slice ba bn bc], .bool true]) (by simp [results, Tryz.results143, go_sem, *]) rfl (HF.out _ _)
  · have q0 : ((tn : Int) == 0) = false := by simp; omega
    have hok : decide ((an : Int) ≤ tn) = tkOk an t := by simp [tkOk, htl, h0]
    have hty : tkY an t = t := if_neg (by omega)
    have HOK := Lib.hid hok
    have HF : Hid (∀ q u v, TakenP w an ta tn tc t ba bn bc (.returned (.tuple #[.agg #[.slice ta tn tc, .slice ba bn bc], .bool (decide ((an : Int) ≤ tn))])) (((W.setCell ⟨b1 + 1 + 1, 0, none⟩ u).setCell ⟨b1 + 1 + 1, 1, none⟩ v).drewN q)) := fun q u v => by
      have h6 := (((H1.out.put (i := 2) rfl 0 u).put (i := 2) rfl 1 v).via (adrew _ q)).pick [0] (by decide)
      exact ⟨ta, tn, tc, _, by rw [HOK.out], h6, fun w'' F h _ => by rw [hty]; exact h⟩
    have x0 := H1.out.cell (i := 2) rfl 0 _ rfl
    have x1 := H1.out.cell (i := 2) rfl 1 _ rfl
    have f0 := H1.out.frozen (i := 2) rfl 0
    have f1 := H1.out.frozen (i := 2) rfl 1
    clear htl hok hty HOK H1
    go_enter Tryz.func143, Tryz.ntmps143
    go_upto_region 3 with fail
    rw [HW.out, HB1.out]
    go_region
    all_goals
      go_wp2
      refine bodyPost_ret (v := .tuple #[.agg #[.slice ta tn tc, .slice ba bn bc], .bool (decide ((an : Int) ≤ tn))]) ?_ ?_ ?_
      · simp [results, Tryz.f143, go_sem, *]
      · rfl
      · exact HF.out 1 _ _
theorem tkY_pr (n : Nat) (s : List Int) : pr (tkY n s) = pr s := by
  unfold tkY
  split
  · rename_i h
    have e : s = [] := List.eq_nil_of_length_eq_zero h
    subst e
    induction n with
    | zero => rfl
    | succ n ih => rw [List.replicate_succ, pr_cons, ih]; rfl
  · rfl
theorem tkY_bd {s : List Int} (hm : mayE s = 0) (n j : Nat) : 0 ≤ (tkY n s).getD j 0 ∧ (tkY n s).getD j 0 ≤ 4096 := by
  unfold tkY
  split
  · simp only [List.getD, List.getElem?_replicate]
    split <;> simp
  · exact may_bd hm j
theorem tkY_len {n : Nat} {s : List Int} (h : tkOk n s = true) : n ≤ (tkY n s).length := by
  unfold tkOk at h
  unfold tkY
  simp only [decide_eq_true_eq] at h
  split
  · simp
  · omega
theorem atF_bd2 (s t : List Int) (h0 : 0 ≤ pr s) : -1 ≤ atF s t ∧ (atF s t < pr s ∨ atF s t = -1) := by
  by_cases hm : mayE s = 0
  · have h := atF_bd hm t
    exact ⟨h.1, .inl h.2⟩
  · unfold atF plE
    rw [if_neg hm, if_neg hm]
    exact ⟨by omega, .inr rfl⟩
def dRf (x s : List Int) (j : Nat) : Int := max 0 (s.getD j 0 - fa (x.getD j 0))
def tRf (x : List Int) (j : Nat) : Int := fa (x.getD j 0)
def tkRS (x s : List Int) : List Int := updG (tRf x) (tkY x.length s) x.length
def drRS (x s : List Int) : List Int := updG (dRf x (tkY x.length s)) (tkY x.length s) x.length
def tkE (x s : List Int) : Int := if tkOk x.length s then mdE (tkRS x s) else 11
def tkS (x s : List Int) : List Int := if tkOk x.length s then mdS (tkRS x s) else []
def tkA (x s b : List Int) : List Int := if tkOk x.length s then pkA (tkRS x s) b (tkF x (tkY x.length s) (tkRS x s)) else []
set_option maxRecDepth 100000 in
set_option maxHeartbeats 3200000 in
theorem take_any {w : World} {X Y : Ar} (hX : X.Is w) (hY : Y.Is w) (hxn : X.an ≤ 4096) (hm : amE Y.s Y.a = 0) : Calls Tryz.prog 107 #[X.v, Y.v] w (MadeE w (tkS X.a Y.s) (tkA X.a Y.s Y.a) (tkE X.a Y.s)) := by
  obtain ⟨sa, sn', sc', aa, an, ac, s', x⟩ := X
  obtain ⟨ta, tn, tc, ba, bn, bc, s, b⟩ := Y
  simp only [Ar.v]
  simp only at hxn hm
  obtain ⟨hm1, hm2⟩ := amE_zero hm
  have hxl : x.length = an := hX.ats.len
  have hbl : b.length = bn := hY.ats.len
  obtain ⟨W, HW⟩ : ∃ z, Hid (((w.alloc (.cells #[.slice sa sn' sc', .slice aa an ac] 38)).alloc (.cells #[.slice ta tn tc, .slice ba bn bc] 38)).alloc (.cells #[.slice none 0 0, .slice none 0 0] 38) = z) := ⟨_, rfl⟩
  have h0 := (((Sp.start Non w).alloc 38 2 1 #[.slice sa sn' sc', .slice aa an ac] rfl (by decide)).alloc 38 2 1 #[.slice ta tn tc, .slice ba bn bc] rfl (by decide)).alloc 38 2 1 #[.slice none 0 0, .slice none 0 0] rfl (by decide)
  rw [HW.out] at h0
  have H1_ := h0
  try simp only [List.cons_append, List.nil_append, List.set_cons_zero, List.set_cons_succ, List.map_cons, List.map_nil, List.getD_cons_zero, List.getD_cons_succ, World.size_alloc] at H1_
  have H1 := Lib.hid H1_
  clear H1_
  obtain ⟨b1, HB1⟩ : ∃ z, Hid (w.heap.size = z) := ⟨_, rfl⟩
  rw [HB1.out] at H1
  have HX := Lib.hid hX
  have HY := Lib.hid hY
  have hb1 := H1.out.belowN
  have CT := Lib.hid (taken_any (hX.below hb1 (Nat.le_refl _)) (hY.below hb1 (Nat.le_refl _)) hxn)
  simp only [Ar.v] at CT
  have HEE : Hid (tkE x s = if tkOk an s then mdE (tkRS x s) else 11) := by show _ = _; rw [← hxl]; rfl
  have HES : Hid (tkS x s = if tkOk an s then mdS (tkRS x s) else []) := by show _ = _; rw [← hxl]; rfl
  have HEA : Hid (tkA x s b = if tkOk an s then pkA (tkRS x s) b (tkF x (tkY an s) (tkRS x s)) else []) := by show _ = _; rw [← hxl]; rfl
  obtain ⟨RE, HRE⟩ : ∃ z, Hid (z = tkE x s) := ⟨_, rfl⟩
  obtain ⟨RS, HRSS⟩ : ∃ z, Hid (z = tkS x s) := ⟨_, rfl⟩
  obtain ⟨RA, HRA⟩ : ∃ z, Hid (z = tkA x s b) := ⟨_, rfl⟩
  rw [← HRE.out, ← HRSS.out, ← HRA.out]
  have HEE := Lib.hid (HRE.out.trans HEE.out)
  have HES := Lib.hid (HRSS.out.trans HES.out)
  have HEA := Lib.hid (HRA.out.trans HEA.out)
  clear HRE HRSS HRA
  have y0 := H1.out.cell (i := 0) rfl 0 _ rfl
  have y1 := H1.out.cell (i := 0) rfl 1 _ rfl
  have y2 := H1.out.cell (i := 1) rfl 0 _ rfl
  have y3 := H1.out.cell (i := 1) rfl 1 _ rfl
  have HPR : Hid (pr (tkY an s) = bn) := by show _ = _; rw [tkY_pr, hm2, hbl]
  have HYB := Lib.hid (tkY_bd hm1 an)
  have HXL := Lib.hid hxl
  clear hX hY h0 hb1 hm hm1 hm2 hbl hxl
  go_enter Tryz.func107, Tryz.ntmps107
  go_wp2_with fail
  rw [HW.out, HB1.out]
  refine CT.out.mono ?_; rintro e w2 ⟨ro, rn, rc, P0, rfl, h2, hL⟩
  have H2_ := H1.out.add h2
  try simp only [List.cons_append, List.nil_append, List.set_cons_zero, List.set_cons_succ, List.map_cons, List.map_nil, List.getD_cons_zero, List.getD_cons_succ, World.size_alloc] at H2_
  have H2 := Lib.hid H2_
  clear H2_
  clear y0 y1 y2 y3 h2 CT
  have x0 := H2.out.cell (i := 1) rfl 0 _ rfl
  have x1 := H2.out.cell (i := 1) rfl 1 _ rfl
  have f0 := H2.out.frozen (i := 1) rfl 0
  have f1 := H2.out.frozen (i := 1) rfl 1
  have H3_ := (H2.out.put (i := 1) rfl 0 (.slice ro rn rc)).put (i := 1) rfl 1 (.slice ba bn bc)
  try simp only [List.cons_append, List.nil_append, List.set_cons_zero, List.set_cons_succ, List.map_cons, List.map_nil, List.getD_cons_zero, List.getD_cons_succ, World.size_alloc] at H3_
  have H3 := Lib.hid H3_
  clear H3_
  obtain ⟨w3, HW3⟩ : ∃ z, Hid ((w2.setCell ⟨b1 + 1, 0, none⟩ (.slice ro rn rc)).setCell ⟨b1 + 1, 1, none⟩ (.slice ba bn bc) = z) := ⟨_, rfl⟩
  rw [HW3.out] at H3
  have HLL := Lib.hid hL
  clear hL
  obtain ⟨ok, HOK⟩ : ∃ z, Hid (tkOk an s = z) := ⟨_, rfl⟩
  rw [HOK.out]
  cases ok
  · obtain rfl : RE = 11 := by rw [HEE.out, HOK.out]; rfl
    obtain rfl : RS = [] := by rw [HES.out, HOK.out]; rfl
    obtain rfl : RA = [] := by rw [HEA.out, HOK.out]; rfl
    have HF : Hid (∀ u v, MadeE w [] [] 11 (.returned (.tuple #[.agg #[.slice none 0 0, .slice none 0 0], .int .i64 11])) ((w3.setCell ⟨b1 + 1 + 1, 0, none⟩ u).setCell ⟨b1 + 1 + 1, 1, none⟩ v)) := fun u v =>
      made_nil 11 ((H3.out.put (i := 2) rfl 0 u).put (i := 2) rfl 1 v).belowN
    have p0 := H3.out.cell (i := 2) rfl 0 _ rfl
    have p1 := H3.out.cell (i := 2) rfl 1 _ rfl
    have p2 := H3.out.frozen (i := 2) rfl 0
    have p3 := H3.out.frozen (i := 2) rfl 1
    clear H2 H3
    go_upto_region 2 with fail
    rw [HW3.out]
    go_wp2
    exact bodyPost_ret (v := .tuple #[.agg #[.slice none 0 0, .slice none 0 0], .int .i64 11]) (by simp [results, Tryz.results107, go_sem, *]) rfl (HF.out _ _)
  · have HTL := Lib.hid (tkY_len HOK.out)
    obtain ⟨y, HYY⟩ : ∃ z, Hid (tkY an s = z) := ⟨_, rfl⟩
    have HRS : Hid (tkRS x s = updG (tRf x) y an) := by show _ = _; rw [← HYY.out, ← HXL.out]; rfl
    have e1 : RE = mdE (updG (tRf x) y an) := by rw [HEE.out, HOK.out, ← HRS.out]; rfl
    have e2 : RS = mdS (updG (tRf x) y an) := by rw [HES.out, HOK.out, ← HRS.out]; rfl
    have e3 : RA = pkA (updG (tRf x) y an) b (tkF x y (updG (tRf x) y an)) := by rw [HEA.out, HOK.out, ← HRS.out, ← HYY.out]; rfl
    have HR := Lib.hid (And.intro e1 (And.intro e2 e3))
    clear e1 e2 e3 HEE HES HEA
    rw [HYY.out] at HLL HPR HYB HTL
    obtain ⟨F3, hF3, -⟩ := H3.out.get (i := 3) rfl
    have hls := HLL.out w3 F3 (HY.out.below H3.out.belowN (Nat.le_refl _)).shp hF3
    have hyl : y.length = rn := hls.len
    have hrg := hls.rng
    have hbig := hls.big
    have C1 := Lib.hid (clone_any hls)
    have p0 := H3.out.cell (i := 1) rfl 0 _ rfl
    have HYL := Lib.hid hyl
    have HRG := Lib.hid hrg
    clear hls hF3 hyl hrg H2
    go_upto_region 4 with fail
    rw [HW3.out]
    clear x0 x1 f0 f1 HW3
    go_wp2_with fail
    refine C1.out.mono ?_; rintro e w4 ⟨so, sc, rfl, hL4, hO4, hB4⟩
    have h4 := (H3.out.intsNew hO4 hB4 hL4.big hL4.rng).toRow (i := 4) rfl
    clear hL4 hO4 hB4 C1 p0
    have H4_ := h4.alloc 25 1 1 #[.slice so rn sc] rfl (by decide)
    try simp only [List.cons_append, List.nil_append, List.set_cons_zero, List.set_cons_succ, List.map_cons, List.map_nil, List.getD_cons_zero, List.getD_cons_succ, World.size_alloc] at H4_
    have H4 := Lib.hid H4_
    clear H4_
    obtain ⟨g, HG⟩ : ∃ z, Hid (w4.heap.size = z) := ⟨_, rfl⟩
    obtain ⟨w5, HW5⟩ : ∃ z, Hid (w4.alloc (.cells #[.slice so rn sc] 25) = z) := ⟨_, rfl⟩
    rw [HG.out, HW5.out] at H4
    obtain ⟨xn, HXN⟩ : ∃ z, Hid (rn = z) := ⟨_, rfl⟩
    have HXN' := HXN.out
    subst HXN'
    have H5 : Hid (Sp Non w w5 [Pt.row ⟨38, 2, some ⟨b1, 0, none⟩, 1, 1, [.slice sa sn' sc', .slice aa an ac]⟩, Pt.row ⟨38, 2, some ⟨b1 + 1, 0, none⟩, 1, 1, [.slice ro rn rc, .slice ba bn bc]⟩, Pt.row ⟨38, 2, some ⟨b1 + 1 + 1, 0, none⟩, 1, 1, [.slice none 0 0, .slice none 0 0]⟩, P0, Pt.row ⟨3, 1, so, rn, sc, (updG (tRf x) y 0).map (Value.int .i64)⟩, Pt.row ⟨25, 1, some ⟨g, 0, none⟩, 1, 1, [.slice so rn sc]⟩]) := by
      show Sp _ _ _ _
      rw [updG_zero]; exact H4.out
    clear H4 h4 H3
    go_upto_region 5 with fail
    rw [HG.out, HW5.out]
    have p1 := H5.out.cell (i := 0) rfl 1 _ rfl
    go_wp2_with fail
    go_loopw [25] (fun v wr => ∃ i : Nat, i ≤ an ∧ v = .int .i64 i ∧ Hid (Sp Non w wr [Pt.row ⟨38, 2, some ⟨b1, 0, none⟩, 1, 1, [.slice sa sn' sc', .slice aa an ac]⟩, Pt.row ⟨38, 2, some ⟨b1 + 1, 0, none⟩, 1, 1, [.slice ro rn rc, .slice ba bn bc]⟩, Pt.row ⟨38, 2, some ⟨b1 + 1 + 1, 0, none⟩, 1, 1, [.slice none 0 0, .slice none 0 0]⟩, P0, Pt.row ⟨3, 1, so, rn, sc, (updG (tRf x) y i).map (Value.int .i64)⟩, Pt.row ⟨25, 1, some ⟨g, 0, none⟩, 1, 1, [.slice so rn sc]⟩])) (fun v _ => an - (RowKit.intOf v).toNat)
    case atStart => exact ⟨0, Nat.zero_le _, rfl, H5⟩
    case round =>
      clear H5 p1
      obtain ⟨i, hi, rfl, HO⟩ := hrel
      by_cases hlt : i < an
      · have hlt' : (i : Int) < an := by omega
        obtain ⟨bx, ox, ex, hcx1⟩ := (HX.out.below HO.out.belowN (Nat.le_refl _)).ats.at (by simp only; omega)
        have d1 := hcx1 i hlt
        simp only at ex d1
        subst ex
        have HFF : Hid (tRf x i = fa (x.getD i 0)) := by show _ = _; rfl
        obtain ⟨n, HN⟩ : ∃ z, Hid (x.getD i 0 = z) := ⟨_, rfl⟩
        rw [HN.out] at d1 HFF
        have CFA := Lib.hid (fun w => far_any n w)
        have hfb := fa_bd n
        obtain ⟨fn, HFN⟩ : ∃ z, Hid (fa n = z) := ⟨_, rfl⟩
        rw [HFN.out] at CFA HFF hfb
        obtain ⟨c1, c2, c3, c4, c5⟩ := HO.out.rcap (i := 4) rfl
        have hirn : i < rn := by have := HTL.out; rw [HYL.out] at this; omega
        obtain ⟨go, rfl⟩ := c5 (by omega)
        have hti : (updG (tRf x) y i).getD i 0 = y.getD i 0 := by rw [updG_at (by rw [HYL.out]; omega), if_neg (by omega)]
        have t0 := HO.out.cell (i := 4) rfl i (.int .i64 (y.getD i 0)) (by rw [getD_map_int _ _ (by rw [updG_len, HYL.out]; omega), hti])
        have t1 := HO.out.frozen (i := 4) rfl i
        have hyb := HYB.out i
        have HPUT : Hid (Sp Non w (wr.setCell ⟨go, i, none⟩ (.int .i64 (tRf x i))).drew [Pt.row ⟨38, 2, some ⟨b1, 0, none⟩, 1, 1, [.slice sa sn' sc', .slice (some ⟨bx, ox, none⟩) an ac]⟩, Pt.row ⟨38, 2, some ⟨b1 + 1, 0, none⟩, 1, 1, [.slice ro rn rc, .slice ba bn bc]⟩, Pt.row ⟨38, 2, some ⟨b1 + 1 + 1, 0, none⟩, 1, 1, [.slice none 0 0, .slice none 0 0]⟩, P0, Pt.row ⟨3, 1, some ⟨go, 0, none⟩, rn, sc, (updG (tRf x) y (i + 1)).map (Value.int .i64)⟩, Pt.row ⟨25, 1, some ⟨g, 0, none⟩, 1, 1, [.slice (some ⟨go, 0, none⟩) rn sc]⟩]) := by
          have h2 := (HO.out.put (i := 4) rfl i (.int .i64 (tRf x i))).via (adrew1 _)
          rw [← List.map_set] at h2
          have h3 := updG_step (f := tRf x) (t := y) (i := i) (by rw [HYL.out]; omega)
          rw [h3] at h2
          exact h2
        have s0 := HO.out.cell (i := 5) rfl 0 _ rfl
        have hix : (i : Int) < rn := by omega
        have hixc : (i : Int) < sc := by omega
        rw [HFF.out] at HPUT
        obtain ⟨ti, HTI⟩ : ∃ z, Hid (y.getD i 0 = z) := ⟨_, rfl⟩
        rw [HTI.out] at t0 hyb
        have z1 : IntKind.i64.wrap (ti - fn) = ti - fn := IntWalk.i64_in _ (by omega)
        clear HFF HO hcx1 c1 c2 c3 c4 c5 hti HFN HN
        go_upto_region 8 with fail
        refine region_tail 5 (by kernel_rfl) (by kernel_rfl) ?_
        simp only [List.take_succ_cons, List.take_zero, List.drop_succ_cons, List.drop_zero]
        iterate 3 still_step
        still_call (RetS.still (CFA.out _))
        iterate 1 still_step
        refine wpStill_nil ?_
        go_wp2_with fail
        go_roundw
        case rel => exact ⟨i + 1, by omega, by go_num, HPUT⟩
        case measure => simp [RowKit.intOf]; omega
      · obtain rfl : i = an := by omega
        have hge : ¬ ((i : Int) < i) := by omega
        have hru := updG_rng (f := tRf x) HRG.out i (fun j _ _ => by
          have h1 := HYB.out j
          have h2 := fa_bd (x.getD j 0)
          unfold tRf
          omega)
        have H6_ := HO.out.toInts (i := 4) (zs := updG (tRf x) y i) rfl (by omega) hru
        try simp only [List.cons_append, List.nil_append, List.set_cons_zero, List.set_cons_succ, List.map_cons, List.map_nil, List.getD_cons_zero, List.getD_cons_succ, World.size_alloc] at H6_
        have H6 := Lib.hid H6_
        clear H6_
        have q0 := H6.out.cell (i := 1) rfl 0 _ rfl
        have q1 := H6.out.cell (i := 1) rfl 1 _ rfl
        have q2 := H6.out.cell (i := 0) rfl 1 _ rfl
        have q3 := H6.out.cell (i := 5) rfl 0 _ rfl
        obtain ⟨F3, hF3, -⟩ := H6.out.get (i := 3) rfl
        have hI0 := HY.out.below H6.out.belowN (Nat.le_refl _)
        have hls := HLL.out wr F3 hI0.shp hF3
        have hBI : Ar.Is ⟨ro, rn, rc, ba, bn, bc, y, b⟩ wr := ⟨hls, hI0.ats⟩
        have hXI := (HX.out.below H6.out.belowN (Nat.le_refl _)).ats
        have CP := Lib.hid (picked_any (H6.out.ls (i := 4) rfl) hBI (ff := 146) (caps := #[.pointer (some ⟨b1, 0, none⟩), .pointer (some ⟨b1 + 1, 0, none⟩), .pointer (some ⟨g, 0, none⟩)]) (enters_of Tryz.func146 (by kernel_rfl) rfl) (tkF x y (updG (tRf x) y i)) (fun k _ => by
          have h := atF_bd2 y (updG (tkf x y (updG (tRf x) y i) (ixL (updG (tRf x) y i) k)) (ixL (updG (tRf x) y i) k) x.length) (by rw [HPR.out]; omega)
          rw [HPR.out] at h
          show tkF x y (updG (tRf x) y i) k < bn ∧ _
          unfold tkF
          omega)
          (fun hm' W' F xo xn xc k hk hb hF hx => take1_any hb hF (H6.out.rlt (i := 0) rfl).1 (H6.out.rlt (i := 1) rfl).1 q2 q0 hXI hls (H6.out.rlt (i := 5) rfl).1 q3 (H6.out.ls (i := 4) rfl) hm' HYB.out (by rw [updG_len, HYL.out]) (by have := HTL.out; rw [HYL.out] at this; exact this) hk hx))
        simp only [Ar.v] at CP
        rw [← HR.out.1, ← HR.out.2.1, ← HR.out.2.2] at CP
        have hmf : ∀ (fn : Fn) (first cap : Array Value) (w : World), (Instr.makeFunc fn first cap).run Tryz.prog w = .ok (.func fn first cap) w := fun _ _ _ _ => rfl
        clear hF3 hI0 hls hBI hXI HO
        go_wp2_with fail
        refine CP.out.mono ?_; rintro e w7 ⟨⟨za, zn, zc, xa, xm, xc, zs, zt⟩, rfl, hI, hs, ha, hO, hb⟩
        have H7_ := H6.out.arrNew hI hO hb
        try simp only [List.cons_append, List.nil_append, List.set_cons_zero, List.set_cons_succ, List.map_cons, List.map_nil, List.getD_cons_zero, List.getD_cons_succ, World.size_alloc] at H7_
        have H7 := Lib.hid H7_
        clear H7_
        simp only at hs ha
        subst hs ha
        simp only [Ar.v]
        clear q0 q1 q2 hI hO hb CP H6
        have x0 := H7.out.cell (i := 2) rfl 0 _ rfl
        have x1 := H7.out.cell (i := 2) rfl 1 _ rfl
        have f0 := H7.out.frozen (i := 2) rfl 0
        have f1 := H7.out.frozen (i := 2) rfl 1
        have HF : Hid (∀ u v, MadeE w zs zt RE (.returned (.tuple #[.agg #[.slice za zn zc, .slice xa xm xc], .int .i64 RE])) ((w7.setCell ⟨b1 + 1 + 1, 0, none⟩ u).setCell ⟨b1 + 1 + 1, 1, none⟩ v)) := fun u v =>
          ((H7.out.put (i := 2) rfl 0 u).put (i := 2) rfl 1 v).madeE (i := 6) (B := ⟨za, zn, zc, xa, xm, xc, zs, zt⟩) rfl RE
        clear H7 HR
        go_wp2
        exact bodyPost_ret (v := .tuple #[.agg #[.slice za zn zc, .slice xa xm xc], .int .i64 RE]) (by simp [results, Tryz.results107, go_sem, *]) rfl (HF.out _ _)
def drE (x s : List Int) : Int := if tkOk x.length s then mdE (drRS x s) else 11
def drS (x s : List Int) : List Int := if tkOk x.length s then mdS (drRS x s) else []
def drA (x s b : List Int) : List Int := if tkOk x.length s then pkA (drRS x s) b (drF x (tkY x.length s) (drRS x s)) else []
set_option maxRecDepth 100000 in
set_option maxHeartbeats 3200000 in
theorem drop_any {w : World} {X Y : Ar} (hX : X.Is w) (hY : Y.Is w) (hxn : X.an ≤ 4096) (hm : amE Y.s Y.a = 0) : Calls Tryz.prog 111 #[X.v, Y.v] w (MadeE w (drS X.a Y.s) (drA X.a Y.s Y.a) (drE X.a Y.s)) := by
  obtain ⟨sa, sn', sc', aa, an, ac, s', x⟩ := X
  obtain ⟨ta, tn, tc, ba, bn, bc, s, b⟩ := Y
  simp only [Ar.v]
  simp only at hxn hm
  obtain ⟨hm1, hm2⟩ := amE_zero hm
  have hxl : x.length = an := hX.ats.len
  have hbl : b.length = bn := hY.ats.len
  obtain ⟨W, HW⟩ : ∃ z, Hid (((w.alloc (.cells #[.slice sa sn' sc', .slice aa an ac] 38)).alloc (.cells #[.slice ta tn tc, .slice ba bn bc] 38)).alloc (.cells #[.slice none 0 0, .slice none 0 0] 38) = z) := ⟨_, rfl⟩
  have h0 := (((Sp.start Non w).alloc 38 2 1 #[.slice sa sn' sc', .slice aa an ac] rfl (by decide)).alloc 38 2 1 #[.slice ta tn tc, .slice ba bn bc] rfl (by decide)).alloc 38 2 1 #[.slice none 0 0, .slice none 0 0] rfl (by decide)
  rw [HW.out] at h0
  have H1_ := h0
  try simp only [List.cons_append, List.nil_append, List.set_cons_zero, List.set_cons_succ, List.map_cons, List.map_nil, List.getD_cons_zero, List.getD_cons_succ, World.size_alloc] at H1_
  have H1 := Lib.hid H1_
  clear H1_
  obtain ⟨b1, HB1⟩ : ∃ z, Hid (w.heap.size = z) := ⟨_, rfl⟩
  rw [HB1.out] at H1
  have HX := Lib.hid hX
  have HY := Lib.hid hY
  have hb1 := H1.out.belowN
  have CT := Lib.hid (taken_any (hX.below hb1 (Nat.le_refl _)) (hY.below hb1 (Nat.le_refl _)) hxn)
  simp only [Ar.v] at CT
  have HEE : Hid (drE x s = if tkOk an s then mdE (drRS x s) else 11) := by show _ = _; rw [← hxl]; rfl
  have HES : Hid (drS x s = if tkOk an s then mdS (drRS x s) else []) := by show _ = _; rw [← hxl]; rfl
  have HEA : Hid (drA x s b = if tkOk an s then pkA (drRS x s) b (drF x (tkY an s) (drRS x s)) else []) := by show _ = _; rw [← hxl]; rfl
  obtain ⟨RE, HRE⟩ : ∃ z, Hid (z = drE x s) := ⟨_, rfl⟩
  obtain ⟨RS, HRSS⟩ : ∃ z, Hid (z = drS x s) := ⟨_, rfl⟩
  obtain ⟨RA, HRA⟩ : ∃ z, Hid (z = drA x s b) := ⟨_, rfl⟩
  rw [← HRE.out, ← HRSS.out, ← HRA.out]
  have HEE := Lib.hid (HRE.out.trans HEE.out)
  have HES := Lib.hid (HRSS.out.trans HES.out)
  have HEA := Lib.hid (HRA.out.trans HEA.out)
  clear HRE HRSS HRA
  have y0 := H1.out.cell (i := 0) rfl 0 _ rfl
  have y1 := H1.out.cell (i := 0) rfl 1 _ rfl
  have y2 := H1.out.cell (i := 1) rfl 0 _ rfl
  have y3 := H1.out.cell (i := 1) rfl 1 _ rfl
  have HPR : Hid (pr (tkY an s) = bn) := by show _ = _; rw [tkY_pr, hm2, hbl]
  have HYB := Lib.hid (tkY_bd hm1 an)
  have HXL := Lib.hid hxl
  clear hX hY h0 hb1 hm hm1 hm2 hbl hxl
  go_enter Tryz.func111, Tryz.ntmps111
  go_wp2_with fail
  rw [HW.out, HB1.out]
  refine CT.out.mono ?_; rintro e w2 ⟨ro, rn, rc, P0, rfl, h2, hL⟩
  have H2_ := H1.out.add h2
  try simp only [List.cons_append, List.nil_append, List.set_cons_zero, List.set_cons_succ, List.map_cons, List.map_nil, List.getD_cons_zero, List.getD_cons_succ, World.size_alloc] at H2_
  have H2 := Lib.hid H2_
  clear H2_
  clear y0 y1 y2 y3 h2 CT
  have x0 := H2.out.cell (i := 1) rfl 0 _ rfl
  have x1 := H2.out.cell (i := 1) rfl 1 _ rfl
  have f0 := H2.out.frozen (i := 1) rfl 0
  have f1 := H2.out.frozen (i := 1) rfl 1
  have H3_ := (H2.out.put (i := 1) rfl 0 (.slice ro rn rc)).put (i := 1) rfl 1 (.slice ba bn bc)
  try simp only [List.cons_append, List.nil_append, List.set_cons_zero, List.set_cons_succ, List.map_cons, List.map_nil, List.getD_cons_zero, List.getD_cons_succ, World.size_alloc] at H3_
  have H3 := Lib.hid H3_
  clear H3_
  obtain ⟨w3, HW3⟩ : ∃ z, Hid ((w2.setCell ⟨b1 + 1, 0, none⟩ (.slice ro rn rc)).setCell ⟨b1 + 1, 1, none⟩ (.slice ba bn bc) = z) := ⟨_, rfl⟩
  rw [HW3.out] at H3
  have HLL := Lib.hid hL
  clear hL
  obtain ⟨ok, HOK⟩ : ∃ z, Hid (tkOk an s = z) := ⟨_, rfl⟩
  rw [HOK.out]
  cases ok
  · obtain rfl : RE = 11 := by rw [HEE.out, HOK.out]; rfl
    obtain rfl : RS = [] := by rw [HES.out, HOK.out]; rfl
    obtain rfl : RA = [] := by rw [HEA.out, HOK.out]; rfl
    have HF : Hid (∀ u v, MadeE w [] [] 11 (.returned (.tuple #[.agg #[.slice none 0 0, .slice none 0 0], .int .i64 11])) ((w3.setCell ⟨b1 + 1 + 1, 0, none⟩ u).setCell ⟨b1 + 1 + 1, 1, none⟩ v)) := fun u v =>
      made_nil 11 ((H3.out.put (i := 2) rfl 0 u).put (i := 2) rfl 1 v).belowN
    have p0 := H3.out.cell (i := 2) rfl 0 _ rfl
    have p1 := H3.out.cell (i := 2) rfl 1 _ rfl
    have p2 := H3.out.frozen (i := 2) rfl 0
    have p3 := H3.out.frozen (i := 2) rfl 1
    clear H2 H3
    go_upto_region 2 with fail
    rw [HW3.out]
    go_wp2
    exact bodyPost_ret (v := .tuple #[.agg #[.slice none 0 0, .slice none 0 0], .int .i64 11]) (by simp [results, Tryz.results111, go_sem, *]) rfl (HF.out _ _)
  · have HTL := Lib.hid (tkY_len HOK.out)
    obtain ⟨y, HYY⟩ : ∃ z, Hid (tkY an s = z) := ⟨_, rfl⟩
    have HRS : Hid (drRS x s = updG (dRf x y) y an) := by show _ = _; rw [← HYY.out, ← HXL.out]; rfl
    have e1 : RE = mdE (updG (dRf x y) y an) := by rw [HEE.out, HOK.out, ← HRS.out]; rfl
    have e2 : RS = mdS (updG (dRf x y) y an) := by rw [HES.out, HOK.out, ← HRS.out]; rfl
    have e3 : RA = pkA (updG (dRf x y) y an) b (drF x y (updG (dRf x y) y an)) := by rw [HEA.out, HOK.out, ← HRS.out, ← HYY.out]; rfl
    have HR := Lib.hid (And.intro e1 (And.intro e2 e3))
    clear e1 e2 e3 HEE HES HEA
    rw [HYY.out] at HLL HPR HYB HTL
    obtain ⟨F3, hF3, -⟩ := H3.out.get (i := 3) rfl
    have hls := HLL.out w3 F3 (HY.out.below H3.out.belowN (Nat.le_refl _)).shp hF3
    have hyl : y.length = rn := hls.len
    have hrg := hls.rng
    have hbig := hls.big
    have C1 := Lib.hid (clone_any hls)
    have p0 := H3.out.cell (i := 1) rfl 0 _ rfl
    have HYL := Lib.hid hyl
    have HRG := Lib.hid hrg
    clear hls hF3 hyl hrg H2
    go_upto_region 4 with fail
    rw [HW3.out]
    clear x0 x1 f0 f1 HW3
    go_wp2_with fail
    refine C1.out.mono ?_; rintro e w4 ⟨so, sc, rfl, hL4, hO4, hB4⟩
    have h4 := (H3.out.intsNew hO4 hB4 hL4.big hL4.rng).toRow (i := 4) rfl
    clear hL4 hO4 hB4 C1 p0
    have H4_ := h4
    try simp only [List.cons_append, List.nil_append, List.set_cons_zero, List.set_cons_succ, List.map_cons, List.map_nil, List.getD_cons_zero, List.getD_cons_succ, World.size_alloc] at H4_
    have H4 := Lib.hid H4_
    clear H4_
    obtain ⟨w5, HW5⟩ : ∃ z, Hid (w4 = z) := ⟨_, rfl⟩
    rw [HW5.out] at H4
    obtain ⟨xn, HXN⟩ : ∃ z, Hid (rn = z) := ⟨_, rfl⟩
    have HXN' := HXN.out
    subst HXN'
    have H5 : Hid (Sp Non w w5 [Pt.row ⟨38, 2, some ⟨b1, 0, none⟩, 1, 1, [.slice sa sn' sc', .slice aa an ac]⟩, Pt.row ⟨38, 2, some ⟨b1 + 1, 0, none⟩, 1, 1, [.slice ro rn rc, .slice ba bn bc]⟩, Pt.row ⟨38, 2, some ⟨b1 + 1 + 1, 0, none⟩, 1, 1, [.slice none 0 0, .slice none 0 0]⟩, P0, Pt.row ⟨3, 1, so, rn, sc, (updG (dRf x y) y 0).map (Value.int .i64)⟩]) := by
      show Sp _ _ _ _
      rw [updG_zero]; exact H4.out
    clear H4 h4 H3
    go_upto_region 5 with fail
    rw [HW5.out]
    have p1 := H5.out.cell (i := 0) rfl 1 _ rfl
    go_wp2_with fail
    go_loopw [25] (fun v wr => ∃ i : Nat, i ≤ an ∧ v = .int .i64 i ∧ Hid (Sp Non w wr [Pt.row ⟨38, 2, some ⟨b1, 0, none⟩, 1, 1, [.slice sa sn' sc', .slice aa an ac]⟩, Pt.row ⟨38, 2, some ⟨b1 + 1, 0, none⟩, 1, 1, [.slice ro rn rc, .slice ba bn bc]⟩, Pt.row ⟨38, 2, some ⟨b1 + 1 + 1, 0, none⟩, 1, 1, [.slice none 0 0, .slice none 0 0]⟩, P0, Pt.row ⟨3, 1, so, rn, sc, (updG (dRf x y) y i).map (Value.int .i64)⟩])) (fun v _ => an - (RowKit.intOf v).toNat)
    case atStart => exact ⟨0, Nat.zero_le _, rfl, H5⟩
    case round =>
      clear H5 p1
      obtain ⟨i, hi, rfl, HO⟩ := hrel
      by_cases hlt : i < an
      · have hlt' : (i : Int) < an := by omega
        obtain ⟨bx, ox, ex, hcx1⟩ := (HX.out.below HO.out.belowN (Nat.le_refl _)).ats.at (by simp only; omega)
        have d1 := hcx1 i hlt
        simp only at ex d1
        subst ex
        have HFF : Hid (dRf x y i = max 0 (y.getD i 0 - fa (x.getD i 0))) := by show _ = _; rfl
        obtain ⟨n, HN⟩ : ∃ z, Hid (x.getD i 0 = z) := ⟨_, rfl⟩
        rw [HN.out] at d1 HFF
        have CFA := Lib.hid (fun w => far_any n w)
        have hfb := fa_bd n
        obtain ⟨fn, HFN⟩ : ∃ z, Hid (fa n = z) := ⟨_, rfl⟩
        rw [HFN.out] at CFA HFF hfb
        obtain ⟨c1, c2, c3, c4, c5⟩ := HO.out.rcap (i := 4) rfl
        have hirn : i < rn := by have := HTL.out; rw [HYL.out] at this; omega
        obtain ⟨go, rfl⟩ := c5 (by omega)
        have hti : (updG (dRf x y) y i).getD i 0 = y.getD i 0 := by rw [updG_at (by rw [HYL.out]; omega), if_neg (by omega)]
        have t0 := HO.out.cell (i := 4) rfl i (.int .i64 (y.getD i 0)) (by rw [getD_map_int _ _ (by rw [updG_len, HYL.out]; omega), hti])
        have t1 := HO.out.frozen (i := 4) rfl i
        have hyb := HYB.out i
        have HPUT : Hid (Sp Non w (wr.setCell ⟨go, i, none⟩ (.int .i64 (dRf x y i))).drew [Pt.row ⟨38, 2, some ⟨b1, 0, none⟩, 1, 1, [.slice sa sn' sc', .slice (some ⟨bx, ox, none⟩) an ac]⟩, Pt.row ⟨38, 2, some ⟨b1 + 1, 0, none⟩, 1, 1, [.slice ro rn rc, .slice ba bn bc]⟩, Pt.row ⟨38, 2, some ⟨b1 + 1 + 1, 0, none⟩, 1, 1, [.slice none 0 0, .slice none 0 0]⟩, P0, Pt.row ⟨3, 1, some ⟨go, 0, none⟩, rn, sc, (updG (dRf x y) y (i + 1)).map (Value.int .i64)⟩]) := by
          have h2 := (HO.out.put (i := 4) rfl i (.int .i64 (dRf x y i))).via (adrew1 _)
          rw [← List.map_set] at h2
          have h3 := updG_step (f := dRf x y) (t := y) (i := i) (by rw [HYL.out]; omega)
          rw [h3] at h2
          exact h2
        have hix : (i : Int) < rn := by omega
        have hixc : (i : Int) < sc := by omega
        rw [HFF.out] at HPUT
        obtain ⟨ti, HTI⟩ : ∃ z, Hid (y.getD i 0 = z) := ⟨_, rfl⟩
        rw [HTI.out] at t0 hyb
        rw [HTI.out] at HPUT
        have z1 : IntKind.i64.wrap (ti - fn) = ti - fn := IntWalk.i64_in _ (by omega)
        clear HFF HO hcx1 c1 c2 c3 c4 c5 hti HFN HN
        go_upto_region 8 with fail
        refine region_tail 11 (by kernel_rfl) (by kernel_rfl) ?_
        simp only [List.take_succ_cons, List.take_zero, List.drop_succ_cons, List.drop_zero]
        iterate 7 still_step
        still_call (RetS.still (CFA.out _))
        iterate 3 still_step
        refine wpStill_nil ?_
        go_wp2_with fail
        go_roundw
        case rel => exact ⟨i + 1, by omega, by go_num, HPUT⟩
        case measure => simp [RowKit.intOf]; omega
      · obtain rfl : i = an := by omega
        have hge : ¬ ((i : Int) < i) := by omega
        have hru := updG_rng (f := dRf x y) HRG.out i (fun j _ _ => by
          have h1 := HYB.out j
          have h2 := fa_bd (x.getD j 0)
          unfold dRf
          omega)
        have H6_ := HO.out.toInts (i := 4) (zs := updG (dRf x y) y i) rfl (by omega) hru
        try simp only [List.cons_append, List.nil_append, List.set_cons_zero, List.set_cons_succ, List.map_cons, List.map_nil, List.getD_cons_zero, List.getD_cons_succ, World.size_alloc] at H6_
        have H6 := Lib.hid H6_
        clear H6_
        have q0 := H6.out.cell (i := 1) rfl 0 _ rfl
        have q1 := H6.out.cell (i := 1) rfl 1 _ rfl
        have q2 := H6.out.cell (i := 0) rfl 1 _ rfl
        obtain ⟨F3, hF3, -⟩ := H6.out.get (i := 3) rfl
        have hI0 := HY.out.below H6.out.belowN (Nat.le_refl _)
        have hls := HLL.out wr F3 hI0.shp hF3
        have hBI : Ar.Is ⟨ro, rn, rc, ba, bn, bc, y, b⟩ wr := ⟨hls, hI0.ats⟩
        have hXI := (HX.out.below H6.out.belowN (Nat.le_refl _)).ats
        have CP := Lib.hid (picked_any (H6.out.ls (i := 4) rfl) hBI (ff := 148) (caps := #[.pointer (some ⟨b1, 0, none⟩), .pointer (some ⟨b1 + 1, 0, none⟩)]) (enters_of Tryz.func148 (by kernel_rfl) rfl) (drF x y (updG (dRf x y) y i)) (fun k _ => by
          have h := atF_bd2 y (updG (drf x (ixL (updG (dRf x y) y i) k)) (ixL (updG (dRf x y) y i) k) x.length) (by rw [HPR.out]; omega)
          rw [HPR.out] at h
          show drF x y (updG (dRf x y) y i) k < bn ∧ _
          unfold drF
          omega)
          (fun hm' W' F xo xn xc k hk hb hF hx => drop1_any hb hF (H6.out.rlt (i := 0) rfl).1 (H6.out.rlt (i := 1) rfl).1 q2 q0 hXI hls hm' HYB.out (by rw [updG_len, HYL.out]) (by have := HTL.out; rw [HYL.out] at this; exact this) hk hx))
        simp only [Ar.v] at CP
        rw [← HR.out.1, ← HR.out.2.1, ← HR.out.2.2] at CP
        have hmf : ∀ (fn : Fn) (first cap : Array Value) (w : World), (Instr.makeFunc fn first cap).run Tryz.prog w = .ok (.func fn first cap) w := fun _ _ _ _ => rfl
        clear hF3 hI0 hls hBI hXI HO
        go_wp2_with fail
        refine CP.out.mono ?_; rintro e w7 ⟨⟨za, zn, zc, xa, xm, xc, zs, zt⟩, rfl, hI, hs, ha, hO, hb⟩
        have H7_ := H6.out.arrNew hI hO hb
        try simp only [List.cons_append, List.nil_append, List.set_cons_zero, List.set_cons_succ, List.map_cons, List.map_nil, List.getD_cons_zero, List.getD_cons_succ, World.size_alloc] at H7_
        have H7 := Lib.hid H7_
        clear H7_
        simp only at hs ha
        subst hs ha
        simp only [Ar.v]
        clear q0 q1 q2 hI hO hb CP H6
        have x0 := H7.out.cell (i := 2) rfl 0 _ rfl
        have x1 := H7.out.cell (i := 2) rfl 1 _ rfl
        have f0 := H7.out.frozen (i := 2) rfl 0
        have f1 := H7.out.frozen (i := 2) rfl 1
        have HF : Hid (∀ u v, MadeE w zs zt RE (.returned (.tuple #[.agg #[.slice za zn zc, .slice xa xm xc], .int .i64 RE])) ((w7.setCell ⟨b1 + 1 + 1, 0, none⟩ u).setCell ⟨b1 + 1 + 1, 1, none⟩ v)) := fun u v =>
          ((H7.out.put (i := 2) rfl 0 u).put (i := 2) rfl 1 v).madeE (i := 5) (B := ⟨za, zn, zc, xa, xm, xc, zs, zt⟩) rfl RE
        clear H7 HR
        go_wp2
        exact bodyPost_ret (v := .tuple #[.agg #[.slice za zn zc, .slice xa xm xc], .int .i64 RE]) (by simp [results, Tryz.results111, go_sem, *]) rfl (HF.out _ _)
end Go.Proofs.YthackmkdicpdeaaGreat

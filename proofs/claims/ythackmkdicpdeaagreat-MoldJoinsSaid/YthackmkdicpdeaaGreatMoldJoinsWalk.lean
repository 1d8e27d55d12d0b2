/- The walk of MoldJoins (printed by gen_joins.py). -/
import Derived.Test.YthackmkdicpdeaaGreatMoldJoinsP
import Derived.Test.YthackmkdicpdeaaGreatMoldLaws
import Derived.Deep.RegionHeld3
import Derived.Deep.Cut
import Derived.RowKit3
namespace Go.Proofs.YthackmkdicpdeaaGreat
open Go.RowKit Go.Lib
set_option linter.unusedVariables false
set_option linter.unusedSimpArgs false
attribute [local go_sem] alloc_drewN setCell_drewN
section
variable {P : Program} {F0 : Nat → Prop} {w0 w : World} {L : List Pt} {i : Nat}
/-- append under a guard that holds. -/
theorem Sp.wpList_locG (H : Sp F0 w0 w L) {ops : Array Oper} {rest : List Oper} {o : Oper} {a : Act} {Q : Exit → Act → World → Prop} (hw : Region.wanted o (yielded ops a.tmps) = true) (s x : Operand) (t : TypeId)
    (ho : o.op = .call { callee := .builtin .append, args := #[s, x], argTypes := #[t, t] })
    (E : TypeId) (q : TypeInfo) (ht : P.underlying t = some (.slice E)) (hi : P.info? E = some q) (hz : q.zero = some (.int .i64 0)) (hsize : q.size = 1) (hby : q.bytes = 8)
    {ao : Option Addr} {n c : Nat} {xs : List Int} (hr : L[i]? = some (Pt.ints E ao n c xs)) (hs : a.eval s = .slice ao n c) {la : Option Addr} {m lc : Nat} {zs : List Int} (hx : a.eval x = .slice la m lc) (hL : Ls w la m lc zs) (h63 : (n + m) * 8 ≤ 140737488351232)
    (hk : ∀ bo d w', Sp F0 w0 w' (L.set i (Pt.ints E bo (n + m) d (xs ++ zs))) → wpList P ops Q rest (a.put o.dst (.slice bo (n + m) d)) w') : wpList P ops Q (o :: rest) a w :=
  wpList_step fun K hK => by rw [if_pos hw]; exact H.wp_loc s x t ho E q ht hi hz hsize hby hr hs hx hL h63 fun bo d w' h2 => hK _ _ (hk bo d w' h2)
end
theorem d_laminate {w : World} {X Y : Ar} (hX : X.Is w) (hY : Y.Is w) (hmx : amE X.s X.a = 0) (hmy : amE Y.s Y.a = 0) : Calls Tryz.prog 29 #[.int .i64 26, X.v, Y.v] w (MadeE w (laS X.s X.a Y.s Y.a) (laA X.s X.a Y.s Y.a) (laE X.s X.a Y.s Y.a)) :=
  mdyad_at hX hY hmx hmy (j := 4) (by decide) (.inr ⟨_, rfl⟩) rfl (fun h => absurd h (by decide)) (enters_of Tryz.func104 (by kernel_rfl) rfl) (fun W hb => laminate_any (hX.below hb (Nat.le_refl _)) (hY.below hb (Nat.le_refl _)) hmx hmy)
theorem tkj_any {w : World} {X Y : Ar} (hX : X.Is w) (hY : Y.Is w) {n : Int} (hs : X.s = []) (ha : X.a = [n]) (hm : amE Y.s Y.a = 0) {S A : List Int} {E : Int} (e1 : tkS [n] Y.s = S) (e2 : tkA [n] Y.s Y.a = A) (e3 : tkE [n] Y.s = E) : Calls Tryz.prog 29 #[.int .i64 28, X.v, Y.v] w (MadeE w S A E) := by
  subst e1 e2 e3
  have hn := hX.shp.len
  have h := d_take hX hY (by rw [hs, ha]; exact am_one1 n) hm (by rw [hs] at hn; simp at hn; omega)
  rw [ha] at h
  exact h
theorem drj_any {w : World} {X Y : Ar} (hX : X.Is w) (hY : Y.Is w) {n : Int} (hs : X.s = []) (ha : X.a = [n]) (hm : amE Y.s Y.a = 0) {S A : List Int} {E : Int} (e1 : drS [n] Y.s = S) (e2 : drA [n] Y.s Y.a = A) (e3 : drE [n] Y.s = E) : Calls Tryz.prog 29 #[.int .i64 29, X.v, Y.v] w (MadeE w S A E) := by
  subst e1 e2 e3
  have hn := hX.shp.len
  have h := d_drop hX hY (by rw [hs, ha]; exact am_one1 n) hm (by rw [hs] at hn; simp at hn; omega)
  rw [ha] at h
  exact h
theorem lam_two {s a b : List Int} (ha : amE s a = 0) (hb : amE s b = 0) :
    (mayE (2 :: s) = 0 → laE s a s b = 0 ∧ laS s a s b = 2 :: s ∧ laA s a s b = a ++ b) ∧ (mayE (2 :: s) ≠ 0 → laE s a s b = 17 ∧ laS s a s b = [] ∧ laA s a s b = []) := by
  have e : laL s a s b = [(s, a), (s, b)] := by
    have e1 : lmS s s = s := if_neg (by omega)
    have e2 : lmA s a s = a := if_neg (by omega)
    have e3 : lmA s b s = b := if_neg (by omega)
    unfold laL; rw [e1, e2, e3]
  unfold laE laS laA
  rw [e]
  exact join_two ha hb
set_option maxRecDepth 100000 in
set_option maxHeartbeats 6400000 in
theorem walkMoldJoins_no {w : World} {X Y : Ar} (hX : X.Is w) (hY : Y.Is w) (h : amE X.s X.a ≠ 0 ∨ amE X.s X.a = 0 ∧ (amE Y.s Y.a ≠ 0 ∨ amE Y.s Y.a = 0 ∧ (X.s.length = 0 ∨ X.s.length ≠ 0 ∧ X.s ≠ Y.s))) :
    Calls Tryz.prog 10 #[X.v, Y.v] w (RetB w (.bool true)) := by
  have hl := hX.shp.len
  obtain ⟨sa, sn, sc, aa, an, ac, s, a⟩ := X
  obtain ⟨ta, tn, tc, ba, bn, bc, t, b⟩ := Y
  simp only [Ar.v]
  simp only at h hl
  have h0 := ((Sp.start Non w).alloc 38 2 1 #[.slice sa sn sc, .slice aa an ac] rfl (by decide)).alloc 38 2 1 #[.slice ta tn tc, .slice ba bn bc] rfl (by decide)
  obtain ⟨W, HW⟩ : ∃ z, Hid ((w.alloc (.cells #[.slice sa sn sc, .slice aa an ac] 38)).alloc (.cells #[.slice ta tn tc, .slice ba bn bc] 38) = z) := ⟨_, rfl⟩
  rw [HW.out] at h0
  have H1_ := h0
  try simp only [List.cons_append, List.nil_append, List.set_cons_zero, List.set_cons_succ, List.map_cons, List.map_nil, List.getD_cons_zero, List.getD_cons_succ, World.size_alloc] at H1_
  have H1 := Lib.hid H1_
  clear H1_
  have CB := Lib.hid (begun6_any W)
  have HX := Lib.hid hX
  have HY := Lib.hid hY
  have HM := Lib.hid h
  have HL := Lib.hid hl
  clear hX hY h h0 hl
  go_enter Tryz.func10, Tryz.ntmps10
  go_wp2_with fail
  rw [HW.out]
  refine CB.out.mono ?_; rintro e w2 ⟨rfl, hb⟩
  have H2_ := H1.out.via hb
  try simp only [List.cons_append, List.nil_append, List.set_cons_zero, List.set_cons_succ, List.map_cons, List.map_nil, List.getD_cons_zero, List.getD_cons_succ, World.size_alloc] at H2_
  have H2 := Lib.hid H2_
  clear H2_
  have cm := may6_any (HX.out.below H2.out.belowN (Nat.le_refl _))
  simp only [Ar.v] at cm
  obtain ⟨q, HQ⟩ : ∃ z, Hid (decide (amE s a = 0) = z) := ⟨_, rfl⟩
  rw [HQ.out] at cm
  have CM := Lib.hid cm
  have y0 := H2.out.cell (i := 0) rfl 0 _ rfl
  have y1 := H2.out.cell (i := 0) rfl 1 _ rfl
  clear hb cm CB H1
  go_upto_region 3 with fail
  have h9 := HM.out
  rcases h9 with h9 | ⟨h8, h9⟩
  · obtain rfl : q = false := by rw [← HQ.out]; exact decide_eq_false h9
    clear h9
    go_wp2_with fail
    refine CM.out.mono ?_; rintro e w3 ⟨rfl, hb⟩
    have HB := Lib.hid (H2.out.via hb).belowN
    clear hb H2 y0 y1
    go_wp2
    go_ret
    exact RetB.mk rfl HB.out
  · obtain rfl : q = true := by rw [← HQ.out]; exact decide_eq_true h8
    clear h8
    go_wp2_with fail
    refine CM.out.mono ?_; rintro e w3 ⟨rfl, hb⟩
    have H3_ := H2.out.via hb
    try simp only [List.cons_append, List.nil_append, List.set_cons_zero, List.set_cons_succ, List.map_cons, List.map_nil, List.getD_cons_zero, List.getD_cons_succ, World.size_alloc] at H3_
    have H3 := Lib.hid H3_
    clear H3_
    have cm := may6_any (HY.out.below H3.out.belowN (Nat.le_refl _))
    simp only [Ar.v] at cm
    obtain ⟨q2, HQ2⟩ : ∃ z, Hid (decide (amE t b = 0) = z) := ⟨_, rfl⟩
    rw [HQ2.out] at cm
    have CM2 := Lib.hid cm
    clear hb cm y0 y1 H2
    have y2 := H3.out.cell (i := 1) rfl 0 _ rfl
    have y3 := H3.out.cell (i := 1) rfl 1 _ rfl
    rcases h9 with h9 | ⟨h8, h9⟩
    · obtain rfl : q2 = false := by rw [← HQ2.out]; exact decide_eq_false h9
      clear h9
      go_wp2_with fail
      refine CM2.out.mono ?_; rintro e w4 ⟨rfl, hb⟩
      have HB := Lib.hid (H3.out.via hb).belowN
      clear hb H3 y2 y3
      go_wp2
      go_ret
      exact RetB.mk rfl HB.out
    · obtain rfl : q2 = true := by rw [← HQ2.out]; exact decide_eq_true h8
      clear h8
      go_wp2_with fail
      refine CM2.out.mono ?_; rintro e w4 ⟨rfl, hb⟩
      have H4_ := H3.out.via hb
      try simp only [List.cons_append, List.nil_append, List.set_cons_zero, List.set_cons_succ, List.map_cons, List.map_nil, List.getD_cons_zero, List.getD_cons_succ, World.size_alloc] at H4_
      have H4 := Lib.hid H4_
      clear H4_
      clear hb H3 y2 y3
      have y0 := H4.out.cell (i := 0) rfl 0 _ rfl
      have y2 := H4.out.cell (i := 1) rfl 0 _ rfl
      rcases h9 with h9 | ⟨h8, h9⟩
      · obtain rfl : sn = 0 := by have := HL.out; omega
        have HB := Lib.hid H4.out.belowN
        clear h9 H4
        go_wp2
        go_ret
        exact RetB.mk rfl HB.out
      · have k5 : ((sn : Int) == 0) = false := by have := HL.out; simp; omega
        have cq := eqints_any (HX.out.below H4.out.belowN (Nat.le_refl _)).shp (HY.out.below H4.out.belowN (Nat.le_refl _)).shp
        rw [decide_eq_false (by simp only; exact h9)] at cq
        have CQ := Lib.hid cq
        clear h8 h9 cq
        go_wp2_with fail
        refine CQ.out.mono ?_; rintro e w5 ⟨rfl, n5, rfl⟩
        have HB := Lib.hid (H4.out.via (adrew w4 n5)).belowN
        clear H4 y0 y2
        go_wp2
        go_ret
        exact RetB.mk rfl HB.out
set_option maxRecDepth 100000 in
set_option maxHeartbeats 12800000 in
theorem walkMoldJoins_e {w : World} {X Y : Ar} (hX : X.Is w) (hY : Y.Is w) (hmx : amE X.s X.a = 0) (hmy : amE Y.s Y.a = 0) (hl0 : X.s.length ≠ 0) (hst : X.s = Y.s) (hbad : mayE ((X.s.getD 0 0 + X.s.getD 0 0) :: X.s.tail) ≠ 0) :
    Calls Tryz.prog 10 #[X.v, Y.v] w (RetB w (.bool true)) := by
  have hl := hX.shp.len
  obtain ⟨sa, sn, sc, aa, an, ac, s, a⟩ := X
  obtain ⟨ta, tn, tc, ba, bn, bc, t, b⟩ := Y
  simp only at *
  subst hst
  cases s with
  | nil => exact absurd rfl hl0
  | cons m r =>
  simp only [Ar.v]
  simp only [List.getD_cons_zero, List.tail_cons] at hbad
  obtain ⟨j1, -, -⟩ := joins_plain hmx hmy
  have HBE := Lib.hid (j1 hbad)
  have hbad2 : (mayE ((m + m) :: r) != 0) = true := by simpa using hbad
  obtain ⟨me, HME⟩ : ∃ z, Hid (mayE ((m + m) :: r) = z) := ⟨_, rfl⟩
  rw [HME.out] at hbad2
  clear j1 hbad
  obtain ⟨i0, hi0, hza, hzb, hzc⟩ := info_parts (P := Tryz.prog) (e := 3) (z := .int .i64 0) (size := 1) (bytes := 8) (by kernel_rfl)
  have HI0 := Lib.hid (And.intro hi0 (And.intro hza (And.intro hzb hzc)))
  clear hi0 hza hzb hzc
  have hmb := may_bd (amE_zero hmx).1 0
  simp only [List.getD_cons_zero] at hmb
  have hp : 0 < sn := by simp at hl; omega
  have hp' : (0 : Int) < sn := by omega
  have k5 : ((sn : Int) == 0) = false := by simp; omega
  obtain ⟨b3, o3, e3, hc3⟩ := hX.shp.at (by simp only; omega)
  have d3 := hc3 0 (by simp only; omega)
  simp only [Nat.add_zero, List.getD_cons_zero] at e3 d3
  have hlt3 : b3 < w.heap.size := World.block_lt_of_cell? w _ d3
  subst e3
  have HD3 := Lib.hid (fun (w9 : World) (hb : Below w.heap.size w w9) => (hb.cell (p := ⟨b3, o3, none⟩) hlt3).trans d3)
  have h0 := ((Sp.start Non w).alloc 38 2 1 #[.slice (some ⟨b3, o3, none⟩) sn sc, .slice aa an ac] rfl (by decide)).alloc 38 2 1 #[.slice ta tn tc, .slice ba bn bc] rfl (by decide)
  obtain ⟨W, HW⟩ : ∃ z, Hid ((w.alloc (.cells #[.slice (some ⟨b3, o3, none⟩) sn sc, .slice aa an ac] 38)).alloc (.cells #[.slice ta tn tc, .slice ba bn bc] 38) = z) := ⟨_, rfl⟩
  rw [HW.out] at h0
  have H1_ := h0
  try simp only [List.cons_append, List.nil_append, List.set_cons_zero, List.set_cons_succ, List.map_cons, List.map_nil, List.getD_cons_zero, List.getD_cons_succ, World.size_alloc] at H1_
  have H1 := Lib.hid H1_
  clear H1_
  obtain ⟨g, HG⟩ : ∃ z, Hid (w.heap.size = z) := ⟨_, rfl⟩
  rw [HG.out] at H1
  have CB := Lib.hid (begun6_any W)
  have HX := Lib.hid hX
  have HY := Lib.hid hY
  have HM := Lib.hid (And.intro hmx hmy)
  have HMB := Lib.hid hmb
  have HL := Lib.hid hl
  clear hX hY h0 hl hmx hmy hmb hc3 d3 hlt3 hl0
  go_enter Tryz.func10, Tryz.ntmps10
  go_wp2_with fail
  rw [HW.out, HG.out]
  refine CB.out.mono ?_; rintro e w2 ⟨rfl, hb⟩
  have H2_ := H1.out.via hb
  try simp only [List.cons_append, List.nil_append, List.set_cons_zero, List.set_cons_succ, List.map_cons, List.map_nil, List.getD_cons_zero, List.getD_cons_succ, World.size_alloc] at H2_
  have H2 := Lib.hid H2_
  clear H2_
  have cm := may6_any (HX.out.below H2.out.belowN (Nat.le_refl _))
  rw [decide_eq_true (by simp only; exact HM.out.1)] at cm
  simp only [Ar.v] at cm
  have CM := Lib.hid cm
  have y0 := H2.out.cell (i := 0) rfl 0 _ rfl
  have y1 := H2.out.cell (i := 0) rfl 1 _ rfl
  clear hb cm CB H1
  go_wp2_with fail
  refine CM.out.mono ?_; rintro e w3 ⟨rfl, hb⟩
  have H3_ := H2.out.via hb
  try simp only [List.cons_append, List.nil_append, List.set_cons_zero, List.set_cons_succ, List.map_cons, List.map_nil, List.getD_cons_zero, List.getD_cons_succ, World.size_alloc] at H3_
  have H3 := Lib.hid H3_
  clear H3_
  have cm := may6_any (HY.out.below H3.out.belowN (Nat.le_refl _))
  rw [decide_eq_true (by simp only; exact HM.out.2)] at cm
  simp only [Ar.v] at cm
  have CM2 := Lib.hid cm
  clear hb cm y0 y1 H2 CM
  have y2 := H3.out.cell (i := 1) rfl 0 _ rfl
  have y3 := H3.out.cell (i := 1) rfl 1 _ rfl
  go_wp2_with fail
  refine CM2.out.mono ?_; rintro e w4 ⟨rfl, hb⟩
  have H4_ := H3.out.via hb
  try simp only [List.cons_append, List.nil_append, List.set_cons_zero, List.set_cons_succ, List.map_cons, List.map_nil, List.getD_cons_zero, List.getD_cons_succ, World.size_alloc] at H4_
  have H4 := Lib.hid H4_
  clear H4_
  clear hb H3 y2 y3 CM2
  have y0 := H4.out.cell (i := 0) rfl 0 _ rfl
  have y2 := H4.out.cell (i := 1) rfl 0 _ rfl
  have cq := eqints_any (HX.out.below H4.out.belowN (Nat.le_refl _)).shp (HY.out.below H4.out.belowN (Nat.le_refl _)).shp
  simp only [decide_true] at cq
  have CQ := Lib.hid cq
  clear cq
  go_wp2_with fail
  refine CQ.out.mono ?_; rintro e w5 ⟨rfl, n5, rfl⟩
  have H5_ := H4.out.via (adrew w4 n5)
  try simp only [List.cons_append, List.nil_append, List.set_cons_zero, List.set_cons_succ, List.map_cons, List.map_nil, List.getD_cons_zero, List.getD_cons_succ, World.size_alloc] at H5_
  have H5 := Lib.hid H5_
  clear H5_
  obtain ⟨U5, HU5⟩ : ∃ z, Hid (w4.drewN n5 = z) := ⟨_, rfl⟩
  rw [HU5.out] at H5
  clear H4 y0 y2 CQ
  go_upto_region 5 with fail
  rw [HU5.out]
  have y0 := H5.out.cell (i := 0) rfl 0 _ rfl
  have y1 := H5.out.cell (i := 0) rfl 1 _ rfl
  have y2 := H5.out.cell (i := 1) rfl 0 _ rfl
  have y3 := H5.out.cell (i := 1) rfl 1 _ rfl
  have y4 := HD3.out _ H5.out.belowN
  have ce := d_behind (HX.out.below H5.out.belowN (Nat.le_refl _)) (HY.out.below H5.out.belowN (Nat.le_refl _)) HM.out.1 HM.out.2
  simp only [Ar.v] at ce
  rw [HBE.out.1, HBE.out.2.1, HBE.out.2.2] at ce
  have CE := Lib.hid ce
  clear ce
  go_wp2_with fail
  refine CE.out.mono ?_; rintro e w6 ⟨⟨c1, c2, c3, c4, c5, c6, cs, ct⟩, rfl, hI, hs, ha, hO, hb⟩
  have HC := Lib.hid (And.intro hs ha)
  simp only at HC
  simp only [Ar.v]
  have H6_ := (H5.out.arrNew hI hO hb).alloc 38 2 1 #[.slice c1 c2 c3, .slice c4 c5 c6] rfl (by decide)
  try simp only [List.cons_append, List.nil_append, List.set_cons_zero, List.set_cons_succ, List.map_cons, List.map_nil, List.getD_cons_zero, List.getD_cons_succ, World.size_alloc] at H6_
  have H6 := Lib.hid H6_
  clear H6_
  obtain ⟨W6, HW6⟩ : ∃ z, Hid (w6.alloc (.cells #[.slice c1 c2 c3, .slice c4 c5 c6] 38) = z) := ⟨_, rfl⟩
  rw [HW6.out] at H6
  obtain ⟨g6, HG6⟩ : ∃ z, Hid (w6.heap.size = z) := ⟨_, rfl⟩
  rw [HG6.out] at H6
  clear y0 y1 y2 y3 y4 hI hO hb hs ha H5 CE
  have w1 : IntKind.i64.wrap (2 * m) = m + m := by rw [IntWalk.i64_in _ (by have := HMB.out; omega)]; omega
  go_upto_region 8 with fail
  rw [HW6.out, HG6.out]
  have H7_ := H6.out.intsNew (E := 3) (zs := []) (World.ownsRow_nil _ _ _ _) (Below.refl _ _) (by omega) (fun i => by simp [List.getD])
  try simp only [List.cons_append, List.nil_append, List.set_cons_zero, List.set_cons_succ, List.map_cons, List.map_nil, List.getD_cons_zero, List.getD_cons_succ, World.size_alloc] at H7_
  have H7 := Lib.hid H7_
  clear H7_
  have y0 := H7.out.cell (i := 0) rfl 0 _ rfl
  have LS := Lib.hid (HX.out.below H7.out.belowN (Nat.le_refl _)).shp
  have hb1 : (0 + sn) * 8 ≤ 140737488351232 := by have := LS.out.big; simp only at this; omega
  clear H6
  go_wp2_with (at_builtin; refine Sp.wpList_loc (i := 4) H7.out rfl _ _ 25 rfl 3 i0 Tryz.underlying25 HI0.out.1 HI0.out.2.1 HI0.out.2.2.1 HI0.out.2.2.2 rfl rfl rfl LS.out hb1 ?_)
  intro b9 d9 w9 h9
  have h10 := h9.toRow (i := 4) rfl
  obtain ⟨c1', c2', c3', c4', c5'⟩ := h10.rcap (i := 4) rfl
  obtain ⟨go, rfl⟩ := c5' (by omega)
  have t0 := h10.cell (i := 4) rfl 0 (.int .i64 m) rfl
  have t1 := h10.frozen (i := 4) rfl 0
  have h11 := h10.put (i := 4) rfl 0 (.int .i64 (m + m))
  have h12 := h11.toInts (i := 4) (zs := (m + m) :: r) rfl (by have h8 := (mayE_zero (amE_zero HM.out.1).1).2.1; have h9 := HL.out; omega) (fun i => by
    match i with
    | 0 => have := HMB.out; simp; omega
    | i + 1 => have := HX.out.shp.rng (i + 1); simpa using this)
  have CMM := may_any (h12.ls (i := 4) rfl)
  rw [HME.out] at CMM
  have CMM := Lib.hid CMM
  have HB := Lib.hid h12.belowN
  clear h9 h10 h11 h12 y0 H7 c1' c2' c3' c4' c5'
  go_wp2_with fail
  refine CMM.out.mono ?_; rintro e w' ⟨rfl, hw'⟩
  have hw'' := hw'.symm
  subst hw''
  go_wp2
  go_ret
  exact RetB.mk rfl HB.out
set_option maxRecDepth 100000 in
set_option maxHeartbeats 12800000 in
theorem walkMoldJoins_f {w : World} {X Y : Ar} (hX : X.Is w) (hY : Y.Is w) (hmx : amE X.s X.a = 0) (hmy : amE Y.s Y.a = 0) (hl0 : X.s.length ≠ 0) (hst : X.s = Y.s) (hgood : mayE ((X.s.getD 0 0 + X.s.getD 0 0) :: X.s.tail) = 0) (hbad : mayE (2 :: X.s) ≠ 0) :
    Calls Tryz.prog 10 #[X.v, Y.v] w (RetB w (.bool true)) := by
  have hl := hX.shp.len
  obtain ⟨sa, sn, sc, aa, an, ac, s, a⟩ := X
  obtain ⟨ta, tn, tc, ba, bn, bc, t, b⟩ := Y
  simp only at *
  subst hst
  cases s with
  | nil => exact absurd rfl hl0
  | cons m r =>
  simp only [Ar.v]
  simp only [List.getD_cons_zero, List.tail_cons] at hgood
  obtain ⟨-, j1, -⟩ := joins_plain hmx hmy
  obtain ⟨j2, j3, j4, -⟩ := j1 hgood
  have HBE := Lib.hid (And.intro j2 (And.intro j3 j4))
  have HLM := Lib.hid ((lam_two hmx hmy).2 hbad)
  have hbad2 : (mayE (2 :: m :: r) != 0) = true := by simpa using hbad
  obtain ⟨me, HME⟩ : ∃ z, Hid (mayE (2 :: m :: r) = z) := ⟨_, rfl⟩
  rw [HME.out] at hbad2
  clear j1 hbad j2 j3 j4 hgood
  obtain ⟨i0, hi0, hza, hzb, hzc⟩ := info_parts (P := Tryz.prog) (e := 3) (z := .int .i64 0) (size := 1) (bytes := 8) (by kernel_rfl)
  have HI0 := Lib.hid (And.intro hi0 (And.intro hza (And.intro hzb hzc)))
  clear hi0 hza hzb hzc
  have hmb := may_bd (amE_zero hmx).1 0
  simp only [List.getD_cons_zero] at hmb
  have hp : 0 < sn := by simp at hl; omega
  have hp' : (0 : Int) < sn := by omega
  have k5 : ((sn : Int) == 0) = false := by simp; omega
  obtain ⟨b3, o3, e3, hc3⟩ := hX.shp.at (by simp only; omega)
  have d3 := hc3 0 (by simp only; omega)
  simp only [Nat.add_zero, List.getD_cons_zero] at e3 d3
  have hlt3 : b3 < w.heap.size := World.block_lt_of_cell? w _ d3
  subst e3
  have HD3 := Lib.hid (fun (w9 : World) (hb : Below w.heap.size w w9) => (hb.cell (p := ⟨b3, o3, none⟩) hlt3).trans d3)
  have h0 := ((Sp.start Non w).alloc 38 2 1 #[.slice (some ⟨b3, o3, none⟩) sn sc, .slice aa an ac] rfl (by decide)).alloc 38 2 1 #[.slice ta tn tc, .slice ba bn bc] rfl (by decide)
  obtain ⟨W, HW⟩ : ∃ z, Hid ((w.alloc (.cells #[.slice (some ⟨b3, o3, none⟩) sn sc, .slice aa an ac] 38)).alloc (.cells #[.slice ta tn tc, .slice ba bn bc] 38) = z) := ⟨_, rfl⟩
  rw [HW.out] at h0
  have H1_ := h0
  try simp only [List.cons_append, List.nil_append, List.set_cons_zero, List.set_cons_succ, List.map_cons, List.map_nil, List.getD_cons_zero, List.getD_cons_succ, World.size_alloc] at H1_
  have H1 := Lib.hid H1_
  clear H1_
  obtain ⟨g, HG⟩ : ∃ z, Hid (w.heap.size = z) := ⟨_, rfl⟩
  rw [HG.out] at H1
  have CB := Lib.hid (begun6_any W)
  have HX := Lib.hid hX
  have HY := Lib.hid hY
  have HM := Lib.hid (And.intro hmx hmy)
  have HMB := Lib.hid hmb
  have HL := Lib.hid hl
  clear hX hY h0 hl hmx hmy hmb hc3 d3 hlt3 hl0
  go_enter Tryz.func10, Tryz.ntmps10
  go_wp2_with fail
  rw [HW.out, HG.out]
  refine CB.out.mono ?_; rintro e w2 ⟨rfl, hb⟩
  have H2_ := H1.out.via hb
  try simp only [List.cons_append, List.nil_append, List.set_cons_zero, List.set_cons_succ, List.map_cons, List.map_nil, List.getD_cons_zero, List.getD_cons_succ, World.size_alloc] at H2_
  have H2 := Lib.hid H2_
  clear H2_
  have cm := may6_any (HX.out.below H2.out.belowN (Nat.le_refl _))
  rw [decide_eq_true (by simp only; exact HM.out.1)] at cm
  simp only [Ar.v] at cm
  have CM := Lib.hid cm
  have y0 := H2.out.cell (i := 0) rfl 0 _ rfl
  have y1 := H2.out.cell (i := 0) rfl 1 _ rfl
  clear hb cm CB H1
  go_wp2_with fail
  refine CM.out.mono ?_; rintro e w3 ⟨rfl, hb⟩
  have H3_ := H2.out.via hb
  try simp only [List.cons_append, List.nil_append, List.set_cons_zero, List.set_cons_succ, List.map_cons, List.map_nil, List.getD_cons_zero, List.getD_cons_succ, World.size_alloc] at H3_
  have H3 := Lib.hid H3_
  clear H3_
  have cm := may6_any (HY.out.below H3.out.belowN (Nat.le_refl _))
  rw [decide_eq_true (by simp only; exact HM.out.2)] at cm
  simp only [Ar.v] at cm
  have CM2 := Lib.hid cm
  clear hb cm y0 y1 H2 CM
  have y2 := H3.out.cell (i := 1) rfl 0 _ rfl
  have y3 := H3.out.cell (i := 1) rfl 1 _ rfl
  go_wp2_with fail
  refine CM2.out.mono ?_; rintro e w4 ⟨rfl, hb⟩
  have H4_ := H3.out.via hb
  try simp only [List.cons_append, List.nil_append, List.set_cons_zero, List.set_cons_succ, List.map_cons, List.map_nil, List.getD_cons_zero, List.getD_cons_succ, World.size_alloc] at H4_
  have H4 := Lib.hid H4_
  clear H4_
  clear hb H3 y2 y3 CM2
  have y0 := H4.out.cell (i := 0) rfl 0 _ rfl
  have y2 := H4.out.cell (i := 1) rfl 0 _ rfl
  have cq := eqints_any (HX.out.below H4.out.belowN (Nat.le_refl _)).shp (HY.out.below H4.out.belowN (Nat.le_refl _)).shp
  simp only [decide_true] at cq
  have CQ := Lib.hid cq
  clear cq
  go_wp2_with fail
  refine CQ.out.mono ?_; rintro e w5 ⟨rfl, n5, rfl⟩
  have H5_ := H4.out.via (adrew w4 n5)
  try simp only [List.cons_append, List.nil_append, List.set_cons_zero, List.set_cons_succ, List.map_cons, List.map_nil, List.getD_cons_zero, List.getD_cons_succ, World.size_alloc] at H5_
  have H5 := Lib.hid H5_
  clear H5_
  obtain ⟨U5, HU5⟩ : ∃ z, Hid (w4.drewN n5 = z) := ⟨_, rfl⟩
  rw [HU5.out] at H5
  clear H4 y0 y2 CQ
  go_upto_region 5 with fail
  rw [HU5.out]
  have y0 := H5.out.cell (i := 0) rfl 0 _ rfl
  have y1 := H5.out.cell (i := 0) rfl 1 _ rfl
  have y2 := H5.out.cell (i := 1) rfl 0 _ rfl
  have y3 := H5.out.cell (i := 1) rfl 1 _ rfl
  have y4 := HD3.out _ H5.out.belowN
  have ce := d_behind (HX.out.below H5.out.belowN (Nat.le_refl _)) (HY.out.below H5.out.belowN (Nat.le_refl _)) HM.out.1 HM.out.2
  simp only [Ar.v] at ce
  rw [HBE.out.1, HBE.out.2.1, HBE.out.2.2] at ce
  have CE := Lib.hid ce
  clear ce
  go_wp2_with fail
  refine CE.out.mono ?_; rintro e w6 ⟨⟨c1, c2, c3, c4, c5, c6, cs, ct⟩, rfl, hI, hs, ha, hO, hb⟩
  have HC := Lib.hid (And.intro hs ha)
  simp only at HC
  simp only [Ar.v]
  have H6_ := (H5.out.arrNew hI hO hb).alloc 38 2 1 #[.slice c1 c2 c3, .slice c4 c5 c6] rfl (by decide)
  try simp only [List.cons_append, List.nil_append, List.set_cons_zero, List.set_cons_succ, List.map_cons, List.map_nil, List.getD_cons_zero, List.getD_cons_succ, World.size_alloc] at H6_
  have H6 := Lib.hid H6_
  clear H6_
  obtain ⟨W6, HW6⟩ : ∃ z, Hid (w6.alloc (.cells #[.slice c1 c2 c3, .slice c4 c5 c6] 38) = z) := ⟨_, rfl⟩
  rw [HW6.out] at H6
  obtain ⟨g6, HG6⟩ : ∃ z, Hid (w6.heap.size = z) := ⟨_, rfl⟩
  rw [HG6.out] at H6
  clear y0 y1 y2 y3 y4 hI hO hb hs ha H5 CE
  go_upto_region 11 with fail
  rw [HW6.out, HG6.out]
  have y0 := H6.out.cell (i := 0) rfl 0 _ rfl
  have y1 := H6.out.cell (i := 0) rfl 1 _ rfl
  have y2 := H6.out.cell (i := 1) rfl 0 _ rfl
  have y3 := H6.out.cell (i := 1) rfl 1 _ rfl
  have ce := d_laminate (HX.out.below H6.out.belowN (Nat.le_refl _)) (HY.out.below H6.out.belowN (Nat.le_refl _)) HM.out.1 HM.out.2
  simp only [Ar.v] at ce
  rw [HLM.out.1, HLM.out.2.1, HLM.out.2.2] at ce
  have CE := Lib.hid ce
  clear ce
  go_wp2_with fail
  refine CE.out.mono ?_; rintro e w7 ⟨⟨d1, d2, d3, d4, d5, d6, ds, dt⟩, rfl, hI, hs, ha, hO, hb⟩
  have HD := Lib.hid (And.intro hs ha)
  simp only at HD
  simp only [Ar.v]
  have H7_ := (H6.out.arrNew hI hO hb).alloc 38 2 1 #[.slice d1 d2 d3, .slice d4 d5 d6] rfl (by decide)
  try simp only [List.cons_append, List.nil_append, List.set_cons_zero, List.set_cons_succ, List.map_cons, List.map_nil, List.getD_cons_zero, List.getD_cons_succ, World.size_alloc] at H7_
  have H7 := Lib.hid H7_
  clear H7_
  obtain ⟨W7, HW7⟩ : ∃ z, Hid (w7.alloc (.cells #[.slice d1 d2 d3, .slice d4 d5 d6] 38) = z) := ⟨_, rfl⟩
  rw [HW7.out] at H7
  obtain ⟨g7, HG7⟩ : ∃ z, Hid (w7.heap.size = z) := ⟨_, rfl⟩
  rw [HG7.out] at H7
  clear y0 y1 y2 y3 hI hO hb hs ha H6 CE
  go_upto_region 13 with fail
  rw [HW7.out, HG7.out]
  have h8 := (H7.out.alloc 3 1 1 #[.int .i64 2] rfl (by decide)).toInts (i := 6) (zs := [2]) rfl (by decide) (fun i => by match i with | 0 => simp | i + 1 => simp)
  have H8_ := h8
  try simp only [List.cons_append, List.nil_append, List.set_cons_zero, List.set_cons_succ, List.map_cons, List.map_nil, List.getD_cons_zero, List.getD_cons_succ, World.size_alloc] at H8_
  have H8 := Lib.hid H8_
  clear H8_
  have y0 : (W7.alloc (.cells #[.int .i64 2] 3)).cell? ⟨g, 0, none⟩ = some (.slice (some ⟨b3, o3, none⟩) sn sc) := H8.out.cell (i := 0) rfl 0 _ rfl
  have LS := Lib.hid (HX.out.below H8.out.belowN (Nat.le_refl _)).shp
  have hb1 : (1 + sn) * 8 ≤ 140737488351232 := by have h8 := (mayE_zero (amE_zero HM.out.1).1).2.1; have h9 := HL.out; omega
  clear H7 h8
  go_wp2_with (at_builtin; refine Sp.wpList_locG (i := 6) H8.out (by rfl) _ _ 25 rfl 3 i0 Tryz.underlying25 HI0.out.1 HI0.out.2.1 HI0.out.2.2.1 HI0.out.2.2.2 rfl (by rfl) (by rfl) LS.out hb1 ?_)
  intro b9 d9 w9 h9
  have CMM := may_any (h9.ls (i := 6) rfl)
  rw [HME.out] at CMM
  have CMM := Lib.hid CMM
  have HB := Lib.hid h9.belowN
  clear h9 H8 y0
  go_wp2_with fail
  refine CMM.out.mono ?_; rintro e w' ⟨rfl, hw'⟩
  have hw'' := hw'.symm
  subst hw''
  go_wp2
  go_ret
  exact RetB.mk rfl HB.out
set_option maxRecDepth 100000 in
set_option maxHeartbeats 12800000 in
theorem walkMoldJoins_ok {w : World} {X Y : Ar} (hX : X.Is w) (hY : Y.Is w) (hmx : amE X.s X.a = 0) (hmy : amE Y.s Y.a = 0) (hl0 : X.s.length ≠ 0) (hst : X.s = Y.s) (hgood : mayE ((X.s.getD 0 0 + X.s.getD 0 0) :: X.s.tail) = 0) (hgood2 : mayE (2 :: X.s) = 0) :
    Calls Tryz.prog 10 #[X.v, Y.v] w (RetB w (.bool true)) := by
  have hl := hX.shp.len
  obtain ⟨sa, sn, sc, aa, an, ac, s, a⟩ := X
  obtain ⟨ta, tn, tc, ba, bn, bc, t, b⟩ := Y
  simp only at *
  subst hst
  cases s with
  | nil => exact absurd rfl hl0
  | cons m r =>
  simp only [Ar.v]
  simp only [List.getD_cons_zero, List.tail_cons] at hgood
  obtain ⟨-, j1, j5⟩ := joins_plain hmx hmy
  obtain ⟨j2, j3, j4, j6, j7, j8, j9, k1, k2, k3⟩ := j1 hgood
  obtain ⟨l1, l2, l3⟩ := j5 hgood2
  have HBE := Lib.hid (And.intro j2 (And.intro j3 j4))
  have HLM := Lib.hid ((lam_two hmx hmy).1 hgood2)
  have HAB := Lib.hid j6
  have HTK := Lib.hid (And.intro j7 (And.intro j8 j9))
  have HDR := Lib.hid (And.intro k1 (And.intro k2 k3))
  have HEN := Lib.hid (And.intro l1 (And.intro l2 l3))
  clear j1 j2 j3 j4 j5 j6 j7 j8 j9 k1 k2 k3 l1 l2 l3 hgood hgood2
  have hmb := may_bd (amE_zero hmx).1 0
  simp only [List.getD_cons_zero] at hmb
  have hp : 0 < sn := by simp at hl; omega
  have hp' : (0 : Int) < sn := by omega
  have k5 : ((sn : Int) == 0) = false := by simp; omega
  obtain ⟨b3, o3, e3, hc3⟩ := hX.shp.at (by simp only; omega)
  have d3 := hc3 0 (by simp only; omega)
  simp only [Nat.add_zero, List.getD_cons_zero] at e3 d3
  have hlt3 : b3 < w.heap.size := World.block_lt_of_cell? w _ d3
  subst e3
  have HD3 := Lib.hid (fun (w9 : World) (hb : Below w.heap.size w w9) => (hb.cell (p := ⟨b3, o3, none⟩) hlt3).trans d3)
  have h0 := ((Sp.start Non w).alloc 38 2 1 #[.slice (some ⟨b3, o3, none⟩) sn sc, .slice aa an ac] rfl (by decide)).alloc 38 2 1 #[.slice ta tn tc, .slice ba bn bc] rfl (by decide)
  obtain ⟨W, HW⟩ : ∃ z, Hid ((w.alloc (.cells #[.slice (some ⟨b3, o3, none⟩) sn sc, .slice aa an ac] 38)).alloc (.cells #[.slice ta tn tc, .slice ba bn bc] 38) = z) := ⟨_, rfl⟩
  rw [HW.out] at h0
  have H1_ := h0
  try simp only [List.cons_append, List.nil_append, List.set_cons_zero, List.set_cons_succ, List.map_cons, List.map_nil, List.getD_cons_zero, List.getD_cons_succ, World.size_alloc] at H1_
  have H1 := Lib.hid H1_
  clear H1_
  obtain ⟨g, HG⟩ : ∃ z, Hid (w.heap.size = z) := ⟨_, rfl⟩
  rw [HG.out] at H1
  have CB := Lib.hid (begun6_any W)
  have HX := Lib.hid hX
  have HY := Lib.hid hY
  have HM := Lib.hid (And.intro hmx hmy)
  have HMB := Lib.hid hmb
  have HL := Lib.hid hl
  clear hX hY h0 hl hmx hmy hmb hc3 d3 hlt3 hl0
  go_enter Tryz.func10, Tryz.ntmps10
  go_wp2_with fail
  rw [HW.out, HG.out]
  refine CB.out.mono ?_; rintro e w2 ⟨rfl, hb⟩
  have H2_ := H1.out.via hb
  try simp only [List.cons_append, List.nil_append, List.set_cons_zero, List.set_cons_succ, List.map_cons, List.map_nil, List.getD_cons_zero, List.getD_cons_succ, World.size_alloc] at H2_
  have H2 := Lib.hid H2_
  clear H2_
  have cm := may6_any (HX.out.below H2.out.belowN (Nat.le_refl _))
  rw [decide_eq_true (by simp only; exact HM.out.1)] at cm
  simp only [Ar.v] at cm
  have CM := Lib.hid cm
  have y0 := H2.out.cell (i := 0) rfl 0 _ rfl
  have y1 := H2.out.cell (i := 0) rfl 1 _ rfl
  clear hb cm CB H1
  go_wp2_with fail
  refine CM.out.mono ?_; rintro e w3 ⟨rfl, hb⟩
  have H3_ := H2.out.via hb
  try simp only [List.cons_append, List.nil_append, List.set_cons_zero, List.set_cons_succ, List.map_cons, List.map_nil, List.getD_cons_zero, List.getD_cons_succ, World.size_alloc] at H3_
  have H3 := Lib.hid H3_
  clear H3_
  have cm := may6_any (HY.out.below H3.out.belowN (Nat.le_refl _))
  rw [decide_eq_true (by simp only; exact HM.out.2)] at cm
  simp only [Ar.v] at cm
  have CM2 := Lib.hid cm
  clear hb cm y0 y1 H2 CM
  have y2 := H3.out.cell (i := 1) rfl 0 _ rfl
  have y3 := H3.out.cell (i := 1) rfl 1 _ rfl
  go_wp2_with fail
  refine CM2.out.mono ?_; rintro e w4 ⟨rfl, hb⟩
  have H4_ := H3.out.via hb
  try simp only [List.cons_append, List.nil_append, List.set_cons_zero, List.set_cons_succ, List.map_cons, List.map_nil, List.getD_cons_zero, List.getD_cons_succ, World.size_alloc] at H4_
  have H4 := Lib.hid H4_
  clear H4_
  clear hb H3 y2 y3 CM2
  have y0 := H4.out.cell (i := 0) rfl 0 _ rfl
  have y2 := H4.out.cell (i := 1) rfl 0 _ rfl
  have cq := eqints_any (HX.out.below H4.out.belowN (Nat.le_refl _)).shp (HY.out.below H4.out.belowN (Nat.le_refl _)).shp
  simp only [decide_true] at cq
  have CQ := Lib.hid cq
  clear cq
  go_wp2_with fail
  refine CQ.out.mono ?_; rintro e w5 ⟨rfl, n5, rfl⟩
  have H5_ := H4.out.via (adrew w4 n5)
  try simp only [List.cons_append, List.nil_append, List.set_cons_zero, List.set_cons_succ, List.map_cons, List.map_nil, List.getD_cons_zero, List.getD_cons_succ, World.size_alloc] at H5_
  have H5 := Lib.hid H5_
  clear H5_
  obtain ⟨U5, HU5⟩ : ∃ z, Hid (w4.drewN n5 = z) := ⟨_, rfl⟩
  rw [HU5.out] at H5
  clear H4 y0 y2 CQ
  go_upto_region 5 with fail
  rw [HU5.out]
  have y0 := H5.out.cell (i := 0) rfl 0 _ rfl
  have y1 := H5.out.cell (i := 0) rfl 1 _ rfl
  have y2 := H5.out.cell (i := 1) rfl 0 _ rfl
  have y3 := H5.out.cell (i := 1) rfl 1 _ rfl
  have y4 := HD3.out _ H5.out.belowN
  have ce := d_behind (HX.out.below H5.out.belowN (Nat.le_refl _)) (HY.out.below H5.out.belowN (Nat.le_refl _)) HM.out.1 HM.out.2
  simp only [Ar.v] at ce
  rw [HBE.out.1, HBE.out.2.1, HBE.out.2.2] at ce
  have CE := Lib.hid ce
  clear ce
  go_wp2_with fail
  refine CE.out.mono ?_; rintro e w6 ⟨⟨c1, c2, c3, c4, c5, c6, cs, ct⟩, rfl, hI, hs, ha, hO, hb⟩
  have HC := Lib.hid (And.intro hs ha)
  simp only at HC
  simp only [Ar.v]
  have H6_ := (H5.out.arrNew hI hO hb).alloc 38 2 1 #[.slice c1 c2 c3, .slice c4 c5 c6] rfl (by decide)
  try simp only [List.cons_append, List.nil_append, List.set_cons_zero, List.set_cons_succ, List.map_cons, List.map_nil, List.getD_cons_zero, List.getD_cons_succ, World.size_alloc] at H6_
  have H6 := Lib.hid H6_
  clear H6_
  obtain ⟨W6, HW6⟩ : ∃ z, Hid (w6.alloc (.cells #[.slice c1 c2 c3, .slice c4 c5 c6] 38) = z) := ⟨_, rfl⟩
  rw [HW6.out] at H6
  obtain ⟨g6, HG6⟩ : ∃ z, Hid (w6.heap.size = z) := ⟨_, rfl⟩
  rw [HG6.out] at H6
  clear y0 y1 y2 y3 y4 hI hO hb hs ha H5 CE
  go_upto_region 11 with fail
  rw [HW6.out, HG6.out]
  have y0 := H6.out.cell (i := 0) rfl 0 _ rfl
  have y1 := H6.out.cell (i := 0) rfl 1 _ rfl
  have y2 := H6.out.cell (i := 1) rfl 0 _ rfl
  have y3 := H6.out.cell (i := 1) rfl 1 _ rfl
  have ce := d_laminate (HX.out.below H6.out.belowN (Nat.le_refl _)) (HY.out.below H6.out.belowN (Nat.le_refl _)) HM.out.1 HM.out.2
  simp only [Ar.v] at ce
  rw [HLM.out.1, HLM.out.2.1, HLM.out.2.2] at ce
  have CE := Lib.hid ce
  clear ce
  go_wp2_with fail
  refine CE.out.mono ?_; rintro e w7 ⟨⟨d1, d2, d3, d4, d5, d6, ds, dt⟩, rfl, hI, hs, ha, hO, hb⟩
  have HD := Lib.hid (And.intro hs ha)
  simp only at HD
  simp only [Ar.v]
  have H7_ := (H6.out.arrNew hI hO hb).alloc 38 2 1 #[.slice d1 d2 d3, .slice d4 d5 d6] rfl (by decide)
  try simp only [List.cons_append, List.nil_append, List.set_cons_zero, List.set_cons_succ, List.map_cons, List.map_nil, List.getD_cons_zero, List.getD_cons_succ, World.size_alloc] at H7_
  have H7 := Lib.hid H7_
  clear H7_
  obtain ⟨W7, HW7⟩ : ∃ z, Hid (w7.alloc (.cells #[.slice d1 d2 d3, .slice d4 d5 d6] 38) = z) := ⟨_, rfl⟩
  rw [HW7.out] at H7
  obtain ⟨g7, HG7⟩ : ∃ z, Hid (w7.heap.size = z) := ⟨_, rfl⟩
  rw [HG7.out] at H7
  clear y0 y1 y2 y3 hI hO hb hs ha H6 CE
  have cm := m_head (H7.out.isA (i := 4) rfl) (by simp only; rw [HD.out.1, HD.out.2]; exact HEN.out.1)
  simp only [Ar.v] at cm
  rw [HD.out.1, HD.out.2, HEN.out.2.1, List.tail_cons] at cm
  have CM1 := Lib.hid cm
  clear cm
  go_upto_region 14 with fail
  rw [HW7.out, HG7.out]
  have z0 := H7.out.cell (i := 5) rfl 0 _ rfl
  have z1 := H7.out.cell (i := 5) rfl 1 _ rfl
  go_wp2_with fail
  refine CM1.out.mono ?_; rintro e w8 ⟨⟨e1, e2, e3, e4, e5, e6, es, et⟩, rfl, hI, hs, ha, hO, hb⟩
  have HE := Lib.hid (And.intro hs ha)
  simp only at HE
  simp only [Ar.v]
  have H8_ := (H7.out.arrNew hI hO hb).alloc 38 2 1 #[.slice e1 e2 e3, .slice e4 e5 e6] rfl (by decide)
  try simp only [List.cons_append, List.nil_append, List.set_cons_zero, List.set_cons_succ, List.map_cons, List.map_nil, List.getD_cons_zero, List.getD_cons_succ, World.size_alloc] at H8_
  have H8 := Lib.hid H8_
  clear H8_
  obtain ⟨W8, HW8⟩ : ∃ z, Hid (w8.alloc (.cells #[.slice e1 e2 e3, .slice e4 e5 e6] 38) = z) := ⟨_, rfl⟩
  rw [HW8.out] at H8
  obtain ⟨g8, HG8⟩ : ∃ z, Hid (w8.heap.size = z) := ⟨_, rfl⟩
  rw [HG8.out] at H8
  clear z0 z1 hI hO hb hs ha H7 CM1
  have cm := m_last (H8.out.isA (i := 4) rfl) (by simp only; rw [HD.out.1, HD.out.2]; exact HEN.out.1)
  simp only [Ar.v] at cm
  rw [HD.out.1, HD.out.2, HEN.out.2.2, List.tail_cons] at cm
  have CM1 := Lib.hid cm
  clear cm
  go_upto_region 15 with fail
  rw [HW8.out, HG8.out]
  have z0 := H8.out.cell (i := 5) rfl 0 _ rfl
  have z1 := H8.out.cell (i := 5) rfl 1 _ rfl
  go_wp2_with fail
  refine CM1.out.mono ?_; rintro e w9 ⟨⟨f1, f2, f3, f4, f5, f6, fs, ft⟩, rfl, hI, hs, ha, hO, hb⟩
  have HF := Lib.hid (And.intro hs ha)
  simp only at HF
  simp only [Ar.v]
  have H9_ := (H8.out.arrNew hI hO hb).alloc 38 2 1 #[.slice f1 f2 f3, .slice f4 f5 f6] rfl (by decide)
  try simp only [List.cons_append, List.nil_append, List.set_cons_zero, List.set_cons_succ, List.map_cons, List.map_nil, List.getD_cons_zero, List.getD_cons_succ, World.size_alloc] at H9_
  have H9 := Lib.hid H9_
  clear H9_
  obtain ⟨W9, HW9⟩ : ∃ z, Hid (w9.alloc (.cells #[.slice f1 f2 f3, .slice f4 f5 f6] 38) = z) := ⟨_, rfl⟩
  rw [HW9.out] at H9
  obtain ⟨g9, HG9⟩ : ∃ z, Hid (w9.heap.size = z) := ⟨_, rfl⟩
  rw [HG9.out] at H9
  clear z0 z1 hI hO hb hs ha H8 CM1
  go_upto_region 16 with fail
  rw [HW9.out, HG9.out]
  have CS := Lib.hid (fun w9 => scalar6_any m w9 (by have := HMB.out; omega))
  have HB1 : Hid (∀ (w9 : World) (Z : Ar), Below W9.heap.size W9 w9 → Z.Is w9 → Z.s = [] → Z.a = [m] → Calls Tryz.prog 27 #[.int .i64 28, Z.v, .agg #[.slice c1 c2 c3, .slice c4 c5 c6], .agg #[.slice (some ⟨b3, o3, none⟩) sn sc, .slice aa an ac]] w9 (RetB w9 (.bool true))) := fun w9 Z hb hZ hs ha =>
    both_true (X := Z) (Y := ⟨c1, c2, c3, c4, c5, c6, cs, ct⟩) (Z := ⟨some ⟨b3, o3, none⟩, sn, sc, aa, an, ac, m :: r, a⟩) (HX.out.below (H9.out.via hb).belowN (Nat.le_refl _)) rfl rfl fun W hW =>
      tkj_any (Y := ⟨c1, c2, c3, c4, c5, c6, cs, ct⟩) (hZ.below hW (Nat.le_refl _)) (((H9.out.via hb).via hW).isA (i := 2) rfl) hs ha (by simp only; rw [HC.out.1, HC.out.2]; exact HAB.out) (by simp only; rw [HC.out.1]; exact HTK.out.2.1) (by simp only; rw [HC.out.1, HC.out.2]; exact HTK.out.2.2) (by simp only; rw [HC.out.1]; exact HTK.out.1)
  have HB2 : Hid (∀ (w9 : World) (Z : Ar), Below W9.heap.size W9 w9 → Z.Is w9 → Z.s = [] → Z.a = [m] → Calls Tryz.prog 27 #[.int .i64 29, Z.v, .agg #[.slice c1 c2 c3, .slice c4 c5 c6], .agg #[.slice ta tn tc, .slice ba bn bc]] w9 (RetB w9 (.bool true))) := fun w9 Z hb hZ hs ha =>
    both_true (X := Z) (Y := ⟨c1, c2, c3, c4, c5, c6, cs, ct⟩) (Z := ⟨ta, tn, tc, ba, bn, bc, m :: r, b⟩) (HY.out.below (H9.out.via hb).belowN (Nat.le_refl _)) rfl rfl fun W hW =>
      drj_any (Y := ⟨c1, c2, c3, c4, c5, c6, cs, ct⟩) (hZ.below hW (Nat.le_refl _)) (((H9.out.via hb).via hW).isA (i := 2) rfl) hs ha (by simp only; rw [HC.out.1, HC.out.2]; exact HAB.out) (by simp only; rw [HC.out.1]; exact HDR.out.2.1) (by simp only; rw [HC.out.1, HC.out.2]; exact HDR.out.2.2) (by simp only; rw [HC.out.1]; exact HDR.out.1)
  have HQ1 : Hid (∀ (w9 : World), Below W9.heap.size W9 w9 → Calls Tryz.prog 17 #[.agg #[.slice e1 e2 e3, .slice e4 e5 e6], .agg #[.slice (some ⟨b3, o3, none⟩) sn sc, .slice aa an ac]] w9 (RetB w9 (.bool true))) := fun w9 hb => by
    have h := eq4_any ((H9.out.via hb).isA (i := 6) rfl) (HX.out.below (H9.out.via hb).belowN (Nat.le_refl _))
    rw [decide_eq_true (by simp only; exact HE.out)] at h
    exact h
  have HQ2 : Hid (∀ (w9 : World), Below W9.heap.size W9 w9 → Calls Tryz.prog 17 #[.agg #[.slice f1 f2 f3, .slice f4 f5 f6], .agg #[.slice ta tn tc, .slice ba bn bc]] w9 (RetB w9 (.bool true))) := fun w9 hb => by
    have h := eq4_any ((H9.out.via hb).isA (i := 8) rfl) (HY.out.below (H9.out.via hb).belowN (Nat.le_refl _))
    rw [decide_eq_true (by simp only; exact HF.out)] at h
    exact h
  have z0 := H9.out.cell (i := 0) rfl 0 _ rfl
  have z1 := H9.out.cell (i := 0) rfl 1 _ rfl
  have z2 := H9.out.cell (i := 1) rfl 0 _ rfl
  have z3 := H9.out.cell (i := 1) rfl 1 _ rfl
  have z4 := H9.out.cell (i := 3) rfl 0 _ rfl
  have z5 := H9.out.cell (i := 3) rfl 1 _ rfl
  have z6 := H9.out.cell (i := 7) rfl 0 _ rfl
  have z7 := H9.out.cell (i := 7) rfl 1 _ rfl
  have z8 := H9.out.cell (i := 9) rfl 0 _ rfl
  have z9 := H9.out.cell (i := 9) rfl 1 _ rfl
  go_region_held3 (fun v => v.cell? ⟨g, 0, none⟩ = some (.slice (some ⟨b3, o3, none⟩) sn sc) ∧ v.cell? ⟨g, 1, none⟩ = some (.slice aa an ac) ∧ v.cell? ⟨g + 1, 0, none⟩ = some (.slice ta tn tc) ∧ v.cell? ⟨g + 1, 1, none⟩ = some (.slice ba bn bc) ∧ v.cell? ⟨g6, 0, none⟩ = some (.slice c1 c2 c3) ∧ v.cell? ⟨g6, 1, none⟩ = some (.slice c4 c5 c6) ∧ v.cell? ⟨g8, 0, none⟩ = some (.slice e1 e2 e3) ∧ v.cell? ⟨g8, 1, none⟩ = some (.slice e4 e5 e6) ∧ v.cell? ⟨g9, 0, none⟩ = some (.slice f1 f2 f3) ∧ v.cell? ⟨g9, 1, none⟩ = some (.slice f4 f5 f6)) (go_keep)
    (first
    | ((go_at_call 28; (with_reducible refine Calls.mono (CS.out _) ?_); rintro e v1 ⟨⟨ta2, tn2, tc2, ua2, un2, uc2, ts2, us2⟩, rfl, hI, hs, ha, -, hq⟩; have K1 : Hid (Below W9.heap.size W9 v1) := (by show Below _ _ _; exact abvia (adrew1 _) hq); have F1 := Lib.hid (HB1.out v1 _ K1.out hI hs ha); simp only [Ar.v] at F1 ⊢; clear hI hs ha hq z0 z1 z2 z3 z4 z5 z6 z7 z8 z9; have z0 := (H9.out.via K1.out).cell (i := 0) rfl 0 _ rfl; have z1 := (H9.out.via K1.out).cell (i := 0) rfl 1 _ rfl; have z2 := (H9.out.via K1.out).cell (i := 1) rfl 0 _ rfl; have z3 := (H9.out.via K1.out).cell (i := 1) rfl 1 _ rfl; have z4 := (H9.out.via K1.out).cell (i := 3) rfl 0 _ rfl; have z5 := (H9.out.via K1.out).cell (i := 3) rfl 1 _ rfl; have z6 := (H9.out.via K1.out).cell (i := 7) rfl 0 _ rfl; have z7 := (H9.out.via K1.out).cell (i := 7) rfl 1 _ rfl; have z8 := (H9.out.via K1.out).cell (i := 9) rfl 0 _ rfl; have z9 := (H9.out.via K1.out).cell (i := 9) rfl 1 _ rfl))
    | ((have hreq := F1; go_at_call 27; (with_reducible refine Calls.mono F1.out ?_); rintro e v2 ⟨rfl, hq⟩; have K2 : Hid (Below W9.heap.size W9 v2) := (by show Below _ _ _; exact abvia K1.out hq); clear hq F1 hreq z0 z1 z2 z3 z4 z5 z6 z7 z8 z9; have z0 := (H9.out.via K2.out).cell (i := 0) rfl 0 _ rfl; have z1 := (H9.out.via K2.out).cell (i := 0) rfl 1 _ rfl; have z2 := (H9.out.via K2.out).cell (i := 1) rfl 0 _ rfl; have z3 := (H9.out.via K2.out).cell (i := 1) rfl 1 _ rfl; have z4 := (H9.out.via K2.out).cell (i := 3) rfl 0 _ rfl; have z5 := (H9.out.via K2.out).cell (i := 3) rfl 1 _ rfl; have z6 := (H9.out.via K2.out).cell (i := 7) rfl 0 _ rfl; have z7 := (H9.out.via K2.out).cell (i := 7) rfl 1 _ rfl; have z8 := (H9.out.via K2.out).cell (i := 9) rfl 0 _ rfl; have z9 := (H9.out.via K2.out).cell (i := 9) rfl 1 _ rfl))
    | ((have hreq := K2; go_at_call 28; (with_reducible refine Calls.mono (CS.out _) ?_); rintro e v3 ⟨⟨ta2, tn2, tc2, ua2, un2, uc2, ts2, us2⟩, rfl, hI, hs, ha, -, hq⟩; have K3 : Hid (Below W9.heap.size W9 v3) := (by show Below _ _ _; exact abvia K2.out hq); have F2 := Lib.hid (HB2.out v3 _ K3.out hI hs ha); simp only [Ar.v] at F2 ⊢; clear hI hs ha hq z0 z1 z2 z3 z4 z5 z6 z7 z8 z9 hreq K2; have z0 := (H9.out.via K3.out).cell (i := 0) rfl 0 _ rfl; have z1 := (H9.out.via K3.out).cell (i := 0) rfl 1 _ rfl; have z2 := (H9.out.via K3.out).cell (i := 1) rfl 0 _ rfl; have z3 := (H9.out.via K3.out).cell (i := 1) rfl 1 _ rfl; have z4 := (H9.out.via K3.out).cell (i := 3) rfl 0 _ rfl; have z5 := (H9.out.via K3.out).cell (i := 3) rfl 1 _ rfl; have z6 := (H9.out.via K3.out).cell (i := 7) rfl 0 _ rfl; have z7 := (H9.out.via K3.out).cell (i := 7) rfl 1 _ rfl; have z8 := (H9.out.via K3.out).cell (i := 9) rfl 0 _ rfl; have z9 := (H9.out.via K3.out).cell (i := 9) rfl 1 _ rfl))
    | ((have hreq := F2; go_at_call 27; (with_reducible refine Calls.mono F2.out ?_); rintro e v4 ⟨rfl, hq⟩; have K4 : Hid (Below W9.heap.size W9 v4) := (by show Below _ _ _; exact abvia K3.out hq); have F3 := Lib.hid (HQ1.out v4 K4.out); clear hq F2 hreq z0 z1 z2 z3 z4 z5 z6 z7 z8 z9; have z0 := (H9.out.via K4.out).cell (i := 0) rfl 0 _ rfl; have z1 := (H9.out.via K4.out).cell (i := 0) rfl 1 _ rfl; have z2 := (H9.out.via K4.out).cell (i := 1) rfl 0 _ rfl; have z3 := (H9.out.via K4.out).cell (i := 1) rfl 1 _ rfl; have z4 := (H9.out.via K4.out).cell (i := 3) rfl 0 _ rfl; have z5 := (H9.out.via K4.out).cell (i := 3) rfl 1 _ rfl; have z6 := (H9.out.via K4.out).cell (i := 7) rfl 0 _ rfl; have z7 := (H9.out.via K4.out).cell (i := 7) rfl 1 _ rfl; have z8 := (H9.out.via K4.out).cell (i := 9) rfl 0 _ rfl; have z9 := (H9.out.via K4.out).cell (i := 9) rfl 1 _ rfl))
    | ((have hreq := F3; go_at_call 17; (with_reducible refine Calls.mono F3.out ?_); rintro e v5 ⟨rfl, hq⟩; have K5 : Hid (Below W9.heap.size W9 v5) := (by show Below _ _ _; exact abvia K4.out hq); have F4 := Lib.hid (HQ2.out v5 K5.out); clear hq F3 hreq z0 z1 z2 z3 z4 z5 z6 z7 z8 z9; have z0 := (H9.out.via K5.out).cell (i := 0) rfl 0 _ rfl; have z1 := (H9.out.via K5.out).cell (i := 0) rfl 1 _ rfl; have z2 := (H9.out.via K5.out).cell (i := 1) rfl 0 _ rfl; have z3 := (H9.out.via K5.out).cell (i := 1) rfl 1 _ rfl; have z4 := (H9.out.via K5.out).cell (i := 3) rfl 0 _ rfl; have z5 := (H9.out.via K5.out).cell (i := 3) rfl 1 _ rfl; have z6 := (H9.out.via K5.out).cell (i := 7) rfl 0 _ rfl; have z7 := (H9.out.via K5.out).cell (i := 7) rfl 1 _ rfl; have z8 := (H9.out.via K5.out).cell (i := 9) rfl 0 _ rfl; have z9 := (H9.out.via K5.out).cell (i := 9) rfl 1 _ rfl))
    | ((have hreq := F4; go_at_call 17; (with_reducible refine Calls.mono F4.out ?_); rintro e v6 ⟨rfl, hq⟩; have K6 : Hid (Below W9.heap.size W9 v6) := (by show Below _ _ _; exact abvia K5.out hq); clear hq F4 hreq z0 z1 z2 z3 z4 z5 z6 z7 z8 z9; have z0 := (H9.out.via K6.out).cell (i := 0) rfl 0 _ rfl; have z1 := (H9.out.via K6.out).cell (i := 0) rfl 1 _ rfl; have z2 := (H9.out.via K6.out).cell (i := 1) rfl 0 _ rfl; have z3 := (H9.out.via K6.out).cell (i := 1) rfl 1 _ rfl; have z4 := (H9.out.via K6.out).cell (i := 3) rfl 0 _ rfl; have z5 := (H9.out.via K6.out).cell (i := 3) rfl 1 _ rfl; have z6 := (H9.out.via K6.out).cell (i := 7) rfl 0 _ rfl; have z7 := (H9.out.via K6.out).cell (i := 7) rfl 1 _ rfl; have z8 := (H9.out.via K6.out).cell (i := 9) rfl 0 _ rfl; have z9 := (H9.out.via K6.out).cell (i := 9) rfl 1 _ rfl))
    )
  all_goals
    have HB := Lib.hid (H9.out.via K6.out).belowN
    go_wp2
    go_ret
    exact RetB.mk rfl HB.out
set_option maxRecDepth 100000 in
theorem walkMoldJoins {w : World} {X : Ar} (hX : X.Is w) {Y : Ar} (hY : Y.Is w) : Calls Tryz.prog 10 #[X.v, Y.v] w (RetB w (.bool true)) := by
  by_cases hm : amE X.s X.a = 0
  · by_cases hm2 : amE Y.s Y.a = 0
    · by_cases h1 : X.s.length = 0
      · exact walkMoldJoins_no hX hY (.inr ⟨hm, .inr ⟨hm2, .inl h1⟩⟩)
      · by_cases h2 : X.s = Y.s
        · by_cases h3 : mayE ((X.s.getD 0 0 + X.s.getD 0 0) :: X.s.tail) = 0
          · by_cases h4 : mayE (2 :: X.s) = 0
            · exact walkMoldJoins_ok hX hY hm hm2 h1 h2 h3 h4
            · exact walkMoldJoins_f hX hY hm hm2 h1 h2 h3 h4
          · exact walkMoldJoins_e hX hY hm hm2 h1 h2 h3
        · exact walkMoldJoins_no hX hY (.inr ⟨hm, .inr ⟨hm2, .inr ⟨h1, h2⟩⟩⟩)
    · exact walkMoldJoins_no hX hY (.inr ⟨hm, .inl hm2⟩)
  · exact walkMoldJoins_no hX hY (.inl hm)
end Go.Proofs.YthackmkdicpdeaaGreat

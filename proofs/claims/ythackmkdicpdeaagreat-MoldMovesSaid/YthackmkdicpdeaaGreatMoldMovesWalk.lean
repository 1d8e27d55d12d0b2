/- The walk of MoldMoves (printed by gen_moves.py). -/
import Derived.Test.YthackmkdicpdeaaGreatMoldTran
import Derived.Test.YthackmkdicpdeaaGreatMoldLaws
import Derived.Deep.RegionHeld3
import Derived.Deep.RegionLaw
import Derived.Deep.Cut
import Derived.RowKit3
namespace Go.Proofs.YthackmkdicpdeaaGreat
open Go.RowKit Go.Lib
set_option linter.unusedVariables false
set_option linter.unusedSimpArgs false
attribute [local go_sem] alloc_drewN setCell_drewN
set_option maxRecDepth 100000 in
set_option maxHeartbeats 800000 in
theorem list6b_any {w : World} {ao : Option Addr} {n c : Nat} {zs : List Int} (h : Ls w ao n c zs) :
    Calls Tryz.prog 30 #[.slice ao n c] w (MadeA w [(n : Int)] zs) := by
  have hn : n * 8 ≤ 140737488351232 := h.big
  obtain ⟨i0, hi0, hza, hzb, hzc⟩ := info_parts (P := Tryz.prog) (e := 2) (z := .int .i64 0) (size := 1) (bytes := 8) (by kernel_rfl)
  obtain ⟨W, HW⟩ : ∃ z, Hid ((w.alloc (.cells #[.slice none 0 0, .slice none 0 0] 38)).alloc (.cells #[.int .i64 n] 3) = z) := ⟨_, rfl⟩
  have h0 := ((Sp.start Non w).alloc 38 2 1 #[.slice none 0 0, .slice none 0 0] rfl (by decide)).alloc 3 1 1 #[.int .i64 n] rfl (by decide)
  rw [HW.out] at h0
  obtain ⟨g, HG⟩ : ∃ z, Hid (w.heap.size = z) := ⟨_, rfl⟩
  have H1_ := h0
  try simp only [List.cons_append, List.nil_append, List.set_cons_zero, List.set_cons_succ, List.map_cons, List.map_nil, List.getD_cons_zero, List.getD_cons_succ, World.size_alloc] at H1_
  have H1 := Lib.hid H1_
  clear H1_
  rw [HG.out] at H1
  have H2 : Hid (Sp Non w W [Pt.row ⟨38, 2, some ⟨g, 0, none⟩, 1, 1, [.slice none 0 0, .slice none 0 0]⟩, Pt.ints 3 (some ⟨g + 1, 0, none⟩) 1 1 [(n : Int)], Pt.ints 2 none 0 0 []]) := by
    have q := (H1.out.toInts (i := 1) (zs := [(n : Int)]) rfl (by omega) (rng_one (by omega))).intsNew (E := 2) (zs := []) (World.ownsRow_nil _ _ _ _) (Below.refl _ _) (by omega) (fun i => by simp [List.getD])
    exact q
  have HL := Lib.hid (h.below H2.out.belowN (Nat.le_refl _))
  have hb : (0 + n) * 8 ≤ 140737488351232 := by omega
  have x0 := H2.out.cell (i := 0) rfl 0 _ rfl
  have x1 := H2.out.cell (i := 0) rfl 1 _ rfl
  have x2 := H2.out.frozen (i := 0) rfl 0
  have x3 := H2.out.frozen (i := 0) rfl 1
  clear h h0 H1
  go_enter Tryz.func30, Tryz.ntmps30
  go_wp2_with (at_builtin; rw [HW.out, HG.out]; refine Sp.wpList_loc H2.out rfl _ _ 28 (by rfl) 2 i0 Tryz.underlying28 hi0 hza hzb hzc (i := 2) rfl (by rfl) (by rfl) HL.out hb ?_)
  intro bo d w9 h9
  have h9 := h9
  have H9_ := h9
  try simp only [List.cons_append, List.nil_append, List.set_cons_zero, List.set_cons_succ, List.map_cons, List.map_nil, List.getD_cons_zero, List.getD_cons_succ, World.size_alloc] at H9_
  have H9 := Lib.hid H9_
  clear H9_
  have x0 := H9.out.cell (i := 0) rfl 0 _ rfl
  have x1 := H9.out.cell (i := 0) rfl 1 _ rfl
  have x2 := H9.out.frozen (i := 0) rfl 0
  have x3 := H9.out.frozen (i := 0) rfl 1
  have HF : Hid (∀ u v, MadeA w [(n : Int)] zs (.returned (.agg #[.slice (some ⟨g + 1, 0, none⟩) 1 1, .slice bo n d])) ((w9.setCell ⟨g, 0, none⟩ u).setCell ⟨g, 1, none⟩ v)) := fun u v => by
    have q := ((H9.out.put (i := 0) rfl 0 u).put (i := 0) rfl 1 v).arrOf (i := 1) (j := 2) rfl (by decide) rfl
    exact madeE_A (q.madeE (i := 2) (B := ⟨some ⟨g + 1, 0, none⟩, 1, 1, bo, n, d, [(n : Int)], zs⟩) rfl 0)
  go_wp2
  exact bodyPost_ret (v := .agg #[.slice (some ⟨g + 1, 0, none⟩) 1 1, .slice bo n d]) (by simp [results, Tryz.results30, go_sem, *]) rfl (HF.out _ _)
theorem d_transpose {w : World} {X Y : Ar} (hX : X.Is w) (hY : Y.Is w) (hmx : amE X.s X.a = 0) (hmy : amE Y.s Y.a = 0) (hsn : X.sn ≤ 1) : Calls Tryz.prog 29 #[.int .i64 33, X.v, Y.v] w (MadeE w (trS X.a Y.s) (trZ X.a Y.s Y.a) (trE X.a Y.s)) := by
  have hxn : X.an ≤ 4096 := by
    obtain ⟨h1, h2⟩ := amE_zero hmx
    have h3 := pr_nonneg h1
    have h4 := hX.ats.len
    omega
  exact mdyad_at hX hY hmx hmy (j := 10) (by decide) (.inr ⟨_, rfl⟩) rfl (fun _ => hsn) (enters_of Tryz.func116 (by kernel_rfl) rfl) (fun W hb => transpose_any (hX.below hb (Nat.le_refl _)) (hY.below hb (Nat.le_refl _)) hxn hmy)
theorem am_list6 {zs : List Int} {n : Nat} (hn : zs.length = n) : amE [(n : Int)] zs = 0 ↔ n ≤ 4096 := by
  have hp : pr [(n : Int)] = n := by simp [pr]
  have hpm : pm [(n : Int)] = max (n : Int) 1 := by rw [pm_cons', show pm [] = 1 from rfl, Int.mul_one]
  constructor
  · intro h
    have h1 := (mayE_zero (amE_zero h).1).2.2
    rw [hpm] at h1
    omega
  · intro h
    have hm : mayE [(n : Int)] = 0 := mayE_from (fun i => by cases i with
      | zero => simp
      | succ i => simp [List.getD]) (by simp) (by rw [hpm]; omega)
    unfold amE
    rw [if_pos hm, if_pos (by rw [hp, hn])]
set_option maxRecDepth 100000 in
theorem mk_bool6 (N : Nat) (hN : N ≤ 1000000) (w : World) : (Instr.makeSlice 75 (.int .i64 (N : Int)) (.int .i64 (N : Int))).run Tryz.prog w = .ok (.slice (some ⟨w.heap.size, 0, none⟩) N N) (w.alloc (.cells (Array.replicate N (.bool false)) 4)) := by
  obtain ⟨i0, hi, hz0, hz1, hz2⟩ := info_parts (P := Tryz.prog) (e := 4) (z := .bool false) (size := 1) (bytes := 1) (by kernel_rfl)
  have h := run_make (P := Tryz.prog) w 75 4 i0 (.bool false) Tryz.underlying75 hi hz0 .i64 .i64 N N (by omega) (Int.le_refl _) (by rw [hz2]; omega) (by omega)
  rw [h]
  have e : madeCells (Value.bool false).cells (((N : Int).toNat) * i0.size) = Array.replicate N (.bool false) := by
    rw [hz1, Nat.mul_one, Int.toNat_natCast]
    exact Array.ext' (by rw [show (Value.bool false).cells = #[.bool false] by rfl, toList_madeCells_one]; simp)
  rw [e]
  simp
/-- Which axes are named. -/
def nbL (k : Nat) (M : List Int) : List Value := (List.range k).map fun (i : Nat) => .bool (M.contains (i : Int))
theorem nbL_len (k : Nat) (M : List Int) : (nbL k M).length = k := by simp [nbL]
theorem nbL_at {k j : Nat} {M : List Int} (h : j < k) : (nbL k M)[j]? = some (.bool (M.contains (j : Int))) := by simp [nbL, h]
theorem nbL_nil (k : Nat) : nbL k [] = List.replicate k (.bool false) := by
  unfold nbL
  apply List.ext_getElem (by simp)
  intro p h1 h2
  simp
theorem nbL_set {k j : Nat} {M : List Int} (h : j < k) : (nbL k M).set j (.bool true) = nbL k (M ++ [(j : Int)]) := by
  apply List.ext_getElem (by simp [nbL])
  intro p h1 h2
  have hp : p < k := by simpa [nbL] using h2
  rw [List.getElem_set]
  by_cases e : j = p
  · subst e
    rw [if_pos rfl]
    simp [nbL]
  · rw [if_neg e]
    have hne : ¬ ((p : Int) = (j : Int)) := by omega
    simp [nbL, hne]
theorem take_at {N : List Int} {i : Nat} (h : i < N.length) : N.take (i + 1) = N.take i ++ [N.getD i 0] := by
  rw [List.take_add_one, List.getElem?_eq_getElem h]
  simp [List.getD, List.getElem?_eq_getElem h]
theorem take_not {N : List Int} (hn : N.Nodup) {i : Nat} (h : i < N.length) : (N.take i).contains (N.getD i 0) = false := by
  rw [Bool.eq_false_iff]
  intro hc
  have hm : N.getD i 0 ∈ N.take i := by simpa using hc
  obtain ⟨p, hp, e⟩ := List.mem_iff_getElem.1 hm
  have hp' : p < i := by simp at hp; omega
  rw [List.getElem_take] at e
  have := nodup_at hn (i := p) (j := i) (by omega) h (by rw [List.getD, List.getElem?_eq_getElem (show p < N.length by omega), Option.getD_some, e])
  omega
set_option maxRecDepth 100000 in
set_option maxHeartbeats 6400000 in
theorem walkMoldMoves_no {w : World} {ao : Option Addr} {n c : Nat} {zs : List Int} (hL : Ls w ao n c zs) {Y : Ar} (hY : Y.Is w) {E : Int} (hE : E ≠ 0)
    (hC : ∀ (w9 : World) (X : Ar), Below w.heap.size w w9 → X.Is w9 → X.s = [(n : Int)] → X.a = zs → Calls Tryz.prog 29 #[.int .i64 33, X.v, Y.v] w9 (MadeE w9 [] [] E)) :
    Calls Tryz.prog 9 #[.slice ao n c, Y.v] w (RetB w (.bool true)) := by
  obtain ⟨ta, tn, tc, ba, bn, bc, s, b⟩ := Y
  simp only [Ar.v] at *
  have h0 := (Sp.start Non w).alloc 38 2 1 #[.slice ta tn tc, .slice ba bn bc] rfl (by decide)
  obtain ⟨W0, HW0⟩ : ∃ z, Hid (w.alloc (.cells #[.slice ta tn tc, .slice ba bn bc] 38) = z) := ⟨_, rfl⟩
  rw [HW0.out] at h0
  have H1_ := h0
  try simp only [List.cons_append, List.nil_append, List.set_cons_zero, List.set_cons_succ, List.map_cons, List.map_nil, List.getD_cons_zero, List.getD_cons_succ, World.size_alloc] at H1_
  have H1 := Lib.hid H1_
  clear H1_
  obtain ⟨g, HG⟩ : ∃ z, Hid (w.heap.size = z) := ⟨_, rfl⟩
  rw [HG.out] at H1
  have CB := Lib.hid (begun6_any W0)
  have HY := Lib.hid hY
  have HL := Lib.hid hL
  have HC := Lib.hid hC
  have hE' : (E != 0) = true := by simpa using hE
  obtain ⟨q, HQ⟩ : ∃ z, Hid (decide (amE s b = 0) = z) := ⟨_, rfl⟩
  clear hY hL hC h0 hE
  go_enter Tryz.func9, Tryz.ntmps9
  go_wp2_with fail
  rw [HW0.out, HG.out]
  refine CB.out.mono ?_; rintro e w3 ⟨rfl, hb⟩
  have H3_ := H1.out.via hb
  try simp only [List.cons_append, List.nil_append, List.set_cons_zero, List.set_cons_succ, List.map_cons, List.map_nil, List.getD_cons_zero, List.getD_cons_succ, World.size_alloc] at H3_
  have H3 := Lib.hid H3_
  clear H3_
  clear hb CB H1
  have y0 := H3.out.cell (i := 0) rfl 0 _ rfl
  have y1 := H3.out.cell (i := 0) rfl 1 _ rfl
  have CLQ := Lib.hid (fun (w9 : World) (hb : Below w3.heap.size w3 w9) => list6b_any (HL.out.below (H3.out.via hb).belowN (Nat.le_refl _)))
  have CYT : Hid (∀ (w9 : World) (X : Ar), Below w3.heap.size w3 w9 → X.Is w9 → X.s = [(n : Int)] → X.a = zs → Calls Tryz.prog 29 #[.int .i64 33, X.v, .agg #[.slice ta tn tc, .slice ba bn bc]] w9 (MadeE w9 [] [] E)) := fun w9 X hb hX hs ha => HC.out w9 X (H3.out.via hb).belowN hX hs ha
  go_upto_region 4 with fail
  have hg5 := (H3.out.rlt (i := 0) rfl).1
  have ne1 : ¬ g = w3.heap.size := by omega
  have ne2 : ¬ w3.heap.size = g := by omega
  have HD1 : Hid (Below w3.heap.size w3 (w3.alloc (.cells #[.slice none 0 0, .slice none 0 0] 38)).drew) := abvia (abal w3 _) (adrew1 _)
  have HG5' := Lib.hid hg5
  clear hg5
  go_upto_region 4 with fail
  go_cut [6, 7] from 22 to 29 (fun v6 v7 wx => ∃ (g8 : Nat) (R : Ar), v6 = .pointer (some ⟨g8, 0, none⟩) ∧ v7 = .int .i64 E ∧ Hid (Sp Non w wx [Pt.row ⟨38, 2, some ⟨g, 0, none⟩, 1, 1, [.slice ta tn tc, .slice ba bn bc]⟩, Pt.arr R, Pt.row ⟨38, 2, some ⟨g8, 0, none⟩, 1, 1, [.slice R.sa R.sn R.sc, .slice R.aa R.an R.ac]⟩]) ∧ Hid (R.s = [] ∧ R.a = []))
  case first =>
    go_region_held3 (fun v => v.cell? ⟨g, 0, none⟩ = some (.slice ta tn tc) ∧ v.cell? ⟨g, 1, none⟩ = some (.slice ba bn bc)) (go_keep)
      (first
      | (go_at_call 30; (with_reducible refine Calls.mono (CLQ.out _ (adrew1 _)) ?_); rintro e v1 ⟨⟨sa7, sn7, sc7, aa7, an7, ac7, s7, a7⟩, rfl, hI, hs, ha, hO, hq⟩; have H7 := Lib.hid ((H3.out.via (adrew1 w3)).via hq); have C2 := Lib.hid (CYT.out v1 _ (abvia (adrew1 w3) hq) hI hs ha); have C3 := Lib.hid (CYT.out (v1.alloc (.cells #[.slice none 0 0, .slice none 0 0] 38)) _ (abvia (abvia (adrew1 w3) hq) (abal _ _)) (hI.via (abal _ _)) hs ha); simp only [Ar.v] at C2 C3 ⊢; have hsz := hq.size; have hg5 := HG5'.out; have ne3 : ¬ g = v1.heap.size := (by simp at hsz; omega); have ne4 : ¬ v1.heap.size = g := (by simp at hsz; omega); clear CLQ hI hs ha hO hq y0 y1 hsz hg5; have y0 := H7.out.cell (i := 0) rfl 0 _ rfl; have y1 := H7.out.cell (i := 0) rfl 1 _ rfl)
      | (go_at_call 30; (with_reducible refine Calls.mono (CLQ.out _ HD1.out) ?_); rintro e v1 ⟨⟨sa7, sn7, sc7, aa7, an7, ac7, s7, a7⟩, rfl, hI, hs, ha, hO, hq⟩; have H7 := Lib.hid (((H3.out.alloc 38 2 1 #[.slice none 0 0, .slice none 0 0] rfl (by decide)).via (adrew1 _)).via hq); have C4 := Lib.hid (CYT.out v1 _ (abvia HD1.out hq) hI hs ha); simp only [Ar.v] at C4 ⊢; clear CLQ hI hs ha hO hq y0 y1; have y0 := H7.out.cell (i := 0) rfl 0 _ rfl; have y1 := H7.out.cell (i := 0) rfl 1 _ rfl; have x0 := H7.out.cell (i := 1) rfl 0 _ rfl; have x1 := H7.out.cell (i := 1) rfl 1 _ rfl; have x2 := H7.out.frozen (i := 1) rfl 0; have x3 := H7.out.frozen (i := 1) rfl 1)
      | (have hreq := C2; go_at_call 29; (with_reducible refine Calls.mono C2.out ?_); rintro e v2 ⟨⟨sa8, sn8, sc8, aa8, an8, ac8, s8, a8⟩, rfl, hI, hs, ha, hO, hq⟩; have hlt := (H7.out.rlt (i := 0) rfl).1; have hsz := hq.size; have ne5 : ¬ g = v2.heap.size := (by omega); have ne6 : ¬ v2.heap.size = g := (by omega); have H8 := Lib.hid (H7.out.arrNew hI hO hq); have HV8 := Lib.hid (And.intro hs ha); simp only [Ar.v]; clear hI hs ha hO hq hreq C2 C3 y0 y1 hlt hsz; have y0 := H8.out.cell (i := 0) rfl 0 _ rfl; have y1 := H8.out.cell (i := 0) rfl 1 _ rfl)
      | (have hreq := C3; go_at_call 29; (with_reducible refine Calls.mono C3.out ?_); rintro e v2 ⟨⟨sa8, sn8, sc8, aa8, an8, ac8, s8, a8⟩, rfl, hI, hs, ha, hO, hq⟩; have H8 := Lib.hid ((H7.out.alloc 38 2 1 #[.slice none 0 0, .slice none 0 0] rfl (by decide)).arrNew hI hO hq); have HV8 := Lib.hid (And.intro hs ha); simp only [Ar.v]; clear hI hs ha hO hq hreq C2 C3 y0 y1; have y0 := H8.out.cell (i := 0) rfl 0 _ rfl; have y1 := H8.out.cell (i := 0) rfl 1 _ rfl; have x0 := H8.out.cell (i := 1) rfl 0 _ rfl; have x1 := H8.out.cell (i := 1) rfl 1 _ rfl; have x2 := H8.out.frozen (i := 1) rfl 0; have x3 := H8.out.frozen (i := 1) rfl 1)
      | (have hreq := C4; go_at_call 29; (with_reducible refine Calls.mono C4.out ?_); rintro e v2 ⟨⟨sa8, sn8, sc8, aa8, an8, ac8, s8, a8⟩, rfl, hI, hs, ha, hO, hq⟩; have H8 := Lib.hid (H7.out.arrNew hI hO hq); have HV8 := Lib.hid (And.intro hs ha); simp only [Ar.v]; clear hI hs ha hO hq hreq C4 y0 y1 x0 x1 x2 x3; have y0 := H8.out.cell (i := 0) rfl 0 _ rfl; have y1 := H8.out.cell (i := 0) rfl 1 _ rfl; have x0 := H8.out.cell (i := 1) rfl 0 _ rfl; have x1 := H8.out.cell (i := 1) rfl 1 _ rfl; have x2 := H8.out.frozen (i := 1) rfl 0; have x3 := H8.out.frozen (i := 1) rfl 1)
      )
    all_goals
      go_wp2_with fail
      go_meet
      first
      | exact ⟨v2.heap.size, ⟨sa8, sn8, sc8, aa8, an8, ac8, s8, a8⟩, rfl, rfl, (H8.out.alloc 38 2 1 #[.slice sa8 sn8 sc8, .slice aa8 an8 ac8] rfl (by decide)).pick [0, 1, 2] (by decide), HV8⟩
      | exact ⟨v1.heap.size, ⟨sa8, sn8, sc8, aa8, an8, ac8, s8, a8⟩, rfl, rfl, ((H8.out.put (i := 1) rfl 0 (.slice sa8 sn8 sc8)).put (i := 1) rfl 1 (.slice aa8 an8 ac8)).pick [0, 2, 1] (by decide), HV8⟩
      | exact ⟨w3.heap.size, ⟨sa8, sn8, sc8, aa8, an8, ac8, s8, a8⟩, rfl, rfl, ((H8.out.put (i := 1) rfl 0 (.slice sa8 sn8 sc8)).put (i := 1) rfl 1 (.slice aa8 an8 ac8)).pick [0, 2, 1] (by decide), HV8⟩
  case rest =>
    obtain ⟨g1, ⟨sa1, sn1, sc1, aa1, an1, ac1, s1, a1⟩, rfl, rfl, HO1, HV1⟩ := hcut
    simp only at HO1 HV1
    obtain ⟨U1, hU⟩ : ∃ z : World, z = wc := ⟨_, rfl⟩
    subst hU
    clear ne1 ne2 HD1 HG5' y0 y1
    have z0 := HO1.out.cell (i := 0) rfl 0 _ rfl
    have z1 := HO1.out.cell (i := 0) rfl 1 _ rfl
    have z2 := HO1.out.cell (i := 2) rfl 0 _ rfl
    have z3 := HO1.out.cell (i := 2) rfl 1 _ rfl
    have cm := may6_any (HY.out.below HO1.out.belowN (Nat.le_refl _))
    simp only [Ar.v] at cm
    rw [HQ.out] at cm
    have CM := Lib.hid cm
    obtain rfl : sn1 = 0 := by
      have h := (HO1.out.isA (i := 1) rfl).shp.len
      simp only at h
      rw [HV1.out.1] at h
      simpa using h.symm
    obtain rfl : an1 = 0 := by
      have h := (HO1.out.isA (i := 1) rfl).ats.len
      simp only at h
      rw [HV1.out.2] at h
      simpa using h.symm
    clear cm H3 CLQ CYT
    go_upto_region 5 with fail
    go_cut [40] from 29 to 41 (fun v40 wx => v40 = .bool true ∧ Hid (Below U1.heap.size U1 wx))
    case first =>
      have hn4 : (4096 : Int) < n ∨ ¬ (4096 : Int) < n := by omega
      cases q with
      | false =>
        go_wp2_with fail
        refine CM.out.mono ?_; rintro e w4 ⟨rfl, hb⟩
        have KB := Lib.hid hb
        clear hb
        go_wp2_with fail
        go_meet
        exact ⟨rfl, KB⟩
      | true =>
        rcases hn4 with h4 | h4
        · go_wp2_with fail
          refine CM.out.mono ?_; rintro e w4 ⟨rfl, hb⟩
          have KB := Lib.hid hb
          clear hb
          go_wp2_with fail
          go_meet
          exact ⟨rfl, KB⟩
        · go_wp2_with fail
          refine CM.out.mono ?_; rintro e w4 ⟨rfl, hb⟩
          have KB := Lib.hid hb
          clear hb
          go_wp2_with fail
          go_meet
          exact ⟨rfl, KB⟩
    case rest =>
      obtain ⟨rfl, KB⟩ := hcut
      clear z0 z1 z2 z3
      have z2 := (HO1.out.via KB.out).cell (i := 2) rfl 0 _ rfl
      have z3 := (HO1.out.via KB.out).cell (i := 2) rfl 1 _ rfl
      have HB := Lib.hid (HO1.out.via KB.out).belowN
      clear HO1
      go_wp2
      go_ret
      exact RetB.mk rfl HB.out
set_option maxRecDepth 100000 in
set_option maxHeartbeats 12800000 in
theorem walkMoldMoves_ok {w : World} {ao : Option Addr} {n c : Nat} {zs : List Int} (hL : Ls w ao n c zs) {Y : Ar} (hY : Y.Is w) (hm : amE Y.s Y.a = 0) (hn4 : n ≤ 4096) {N : List Int} (hg : trG Y.s.length zs [] = (0, N)) :
    Calls Tryz.prog 9 #[.slice ao n c, Y.v] w (RetB w (.bool true)) := by
  have hsl := hY.shp.len
  have hs8 := (mayE_zero (amE_zero hm).1).2.1
  have hzl := hL.len
  obtain ⟨i1, i2, i3, i4⟩ := trG_inv hg (by simp) (by simp)
  rw [List.nil_append] at i1
  have hNl : N.length = n := by rw [i1, List.length_map, hzl]
  have hNk := nodup_len i2 i3
  obtain ⟨hAp, hAn⟩ := trA_perm i2 i3
  obtain ⟨hAl, hAr⟩ := trA_rng i2 i3
  obtain ⟨A, HA⟩ : ∃ z, Hid (z = trA Y.s.length N) := ⟨_, rfl⟩
  have hAp' : A.Perm (rgI Y.s.length) := by rw [HA.out]; exact hAp
  obtain ⟨B, hB1, hB2, hB3, hB4, hB5, hB6, hB7, hB8, hB9, hB10, hB11⟩ := moves_plain hm hAp'
  have hTE : trE zs Y.s = 0 := by unfold trE; rw [hg, if_pos rfl, ← HA.out]; exact if_pos hB4
  have hTS : trS zs Y.s = tpS A Y.s := by unfold trS; rw [hg, if_pos rfl, ← HA.out]; exact if_pos hB4
  have hTZ : trZ zs Y.s Y.a = pkA (tpS A Y.s) Y.a (tpF A Y.s) := by unfold trZ; rw [hg, if_pos rfl, ← HA.out]
  have hC : Hid (∀ (w9 : World) (X : Ar), Below w.heap.size w w9 → X.Is w9 → X.s = [(n : Int)] → X.a = zs → Calls Tryz.prog 29 #[.int .i64 33, X.v, Y.v] w9 (MadeE w9 (tpS A Y.s) (pkA (tpS A Y.s) Y.a (tpF A Y.s)) 0)) := fun w9 X hb hX hs ha => by
    have hn := hX.shp.len
    have h := d_transpose hX (hY.below hb (Nat.le_refl _)) (by rw [hs, ha]; exact (am_list6 hzl).2 hn4) hm (by rw [hs] at hn; simp at hn; omega)
    rw [ha, hTE, hTS, hTZ] at h
    exact h
  have hD : Hid (∀ (w9 : World) (Z R : Ar), Below w.heap.size w w9 → Z.Is w9 → Z.s = [(Y.sn : Int)] → Z.a = B → R.Is w9 → R.s = tpS A Y.s ∧ R.a = pkA (tpS A Y.s) Y.a (tpF A Y.s) → Calls Tryz.prog 27 #[.int .i64 33, Z.v, R.v, Y.v] w9 (RetB w9 (.bool true))) := fun w9 Z R hb hZ hs ha hR hRR =>
    both_true (X := Z) (Y := R) (Z := Y) (hY.below hb (Nat.le_refl _)) rfl rfl fun W hW => by
      have hn := hZ.shp.len
      have h := d_transpose (hZ.below hW (Nat.le_refl _)) (hR.below hW (Nat.le_refl _)) (by rw [hs, ha, ← hsl]; exact (am_list6 hB2).2 (by omega)) (by rw [hRR.1, hRR.2]; exact hB5) (by rw [hs] at hn; simp at hn; omega)
      have e1 : trE B (tpS A Y.s) = 0 := by unfold trE; rw [hB6, hB7, if_pos rfl, hB8, hB9]; exact if_pos hB10
      have e2 : trS B (tpS A Y.s) = Y.s := by unfold trS; rw [hB6, hB7, if_pos rfl, hB8, hB9]; exact if_pos hB10
      have e3 : trZ B (tpS A Y.s) (pkA (tpS A Y.s) Y.a (tpF A Y.s)) = Y.a := by unfold trZ; rw [hB6, hB7, if_pos rfl, hB8, hB9]; exact hB11
      rw [ha, hRR.1, hRR.2, e1, e2, e3] at h
      exact h
  clear hTE hTS hTZ hB5 hB6 hB7 hB8 hB9 hB10 hB11 hB4 hAp hAn hg
  obtain ⟨ta, tn, tc, ba, bn, bc, s, b⟩ := Y
  simp only [Ar.v] at *
  rw [hsl] at i3 hNk hAl hAr HA hAp' hB1 hB2 hB3 hs8
  have HAT : Hid (trX tn N ++ N = A) := HA.out.symm
  have hAl' : A.length = tn := by rw [HA.out]; exact hAl
  have hAr' : ∀ n ∈ A, 0 ≤ n ∧ n < (tn : Int) := by rw [HA.out]; exact hAr
  have HAA := Lib.hid (And.intro hAl' hAr')
  have HN := Lib.hid (And.intro i2 (And.intro i3 hNl))
  have HZ : Hid (∀ i, i < n → -(tn : Int) ≤ zs.getD i 0 ∧ zs.getD i 0 < tn ∧ N.getD i 0 = nmd tn (zs.getD i 0)) := fun i hi => by
    have h1 := i4 _ (mem_at (A := zs) (i := i) (by omega))
    rw [hsl] at h1 i1
    refine ⟨h1.1, h1.2, ?_⟩
    rw [i1]
    simp [List.getD, List.getElem?_eq_getElem (show i < zs.length by omega)]
  have HB1 := Lib.hid hB1
  have htpl : (tpS A s).length = tn := by simp [tpS, hAl']
  have HTL := Lib.hid htpl
  obtain ⟨S, HS⟩ : ∃ z, Hid (z = tpS A s) := ⟨_, rfl⟩
  obtain ⟨a', Ha⟩ : ∃ z, Hid (z = pkA (tpS A s) b (tpF A s)) := ⟨_, rfl⟩
  rw [← HS.out] at hC hD Ha
  rw [← Ha.out] at hC hD
  have HSL := Lib.hid hsl
  clear i1 i2 i3 i4 hAl hAr hAp' hB1 hB2 hB3 hAl' hAr' HA htpl hsl hzl Ha
  have hmk := fun w => mk_int64 tn (by omega) w
  have hmkb := fun w => mk_bool6 tn (by omega) w
  obtain ⟨i0, hi0, hza, hzb, hzc⟩ := info_parts (P := Tryz.prog) (e := 2) (z := .int .i64 0) (size := 1) (bytes := 8) (by kernel_rfl)
  have HI0 := Lib.hid (And.intro hi0 (And.intro hza (And.intro hzb hzc)))
  obtain ⟨j0, hj0, hja, hjb, hjc⟩ := info_parts (P := Tryz.prog) (e := 3) (z := .int .i64 0) (size := 1) (bytes := 8) (by kernel_rfl)
  have HJ0 := Lib.hid (And.intro hj0 (And.intro hja (And.intro hjb hjc)))
  clear hi0 hza hzb hzc hj0 hja hjb hjc
  have h0 := (Sp.start Non w).alloc 38 2 1 #[.slice ta tn tc, .slice ba bn bc] rfl (by decide)
  obtain ⟨W0, HW0⟩ : ∃ z, Hid (w.alloc (.cells #[.slice ta tn tc, .slice ba bn bc] 38) = z) := ⟨_, rfl⟩
  rw [HW0.out] at h0
  have H1_ := h0
  try simp only [List.cons_append, List.nil_append, List.set_cons_zero, List.set_cons_succ, List.map_cons, List.map_nil, List.getD_cons_zero, List.getD_cons_succ, World.size_alloc] at H1_
  have H1 := Lib.hid H1_
  clear H1_
  obtain ⟨g, HG⟩ : ∃ z, Hid (w.heap.size = z) := ⟨_, rfl⟩
  rw [HG.out] at H1
  have CB := Lib.hid (begun6_any W0)
  have HY := Lib.hid hY
  have HL := Lib.hid hL
  have HM := Lib.hid hm
  have q4 : ¬ (4096 : Int) < n := by omega
  clear hY hL h0 hm
  go_enter Tryz.func9, Tryz.ntmps9
  go_wp2_with fail
  rw [HW0.out, HG.out]
  refine CB.out.mono ?_; rintro e w3 ⟨rfl, hb⟩
  have H3_ := H1.out.via hb
  try simp only [List.cons_append, List.nil_append, List.set_cons_zero, List.set_cons_succ, List.map_cons, List.map_nil, List.getD_cons_zero, List.getD_cons_succ, World.size_alloc] at H3_
  have H3 := Lib.hid H3_
  clear H3_
  clear hb CB H1
  have y0 := H3.out.cell (i := 0) rfl 0 _ rfl
  have y1 := H3.out.cell (i := 0) rfl 1 _ rfl
  have CLQ := Lib.hid (fun (w9 : World) (hb : Below w3.heap.size w3 w9) => list6b_any (HL.out.below (H3.out.via hb).belowN (Nat.le_refl _)))
  have CYT : Hid (∀ (w9 : World) (X : Ar), Below w3.heap.size w3 w9 → X.Is w9 → X.s = [(n : Int)] → X.a = zs → Calls Tryz.prog 29 #[.int .i64 33, X.v, .agg #[.slice ta tn tc, .slice ba bn bc]] w9 (MadeE w9 S a' 0)) := fun w9 X hb hX hs ha => hC.out w9 X (H3.out.via hb).belowN hX hs ha
  go_upto_region 4 with fail
  have hg5 := (H3.out.rlt (i := 0) rfl).1
  have ne1 : ¬ g = w3.heap.size := by omega
  have ne2 : ¬ w3.heap.size = g := by omega
  have HD1 : Hid (Below w3.heap.size w3 (w3.alloc (.cells #[.slice none 0 0, .slice none 0 0] 38)).drew) := abvia (abal w3 _) (adrew1 _)
  have HG5' := Lib.hid hg5
  clear hg5
  go_upto_region 4 with fail
  go_cut [6, 7] from 22 to 29 (fun v6 v7 wx => ∃ (g8 : Nat) (R : Ar), v6 = .pointer (some ⟨g8, 0, none⟩) ∧ v7 = .int .i64 0 ∧ Hid (Sp Non w wx [Pt.row ⟨38, 2, some ⟨g, 0, none⟩, 1, 1, [.slice ta tn tc, .slice ba bn bc]⟩, Pt.arr R, Pt.row ⟨38, 2, some ⟨g8, 0, none⟩, 1, 1, [.slice R.sa R.sn R.sc, .slice R.aa R.an R.ac]⟩]) ∧ Hid (R.s = S ∧ R.a = a'))
  case first =>
    go_region_held3 (fun v => v.cell? ⟨g, 0, none⟩ = some (.slice ta tn tc) ∧ v.cell? ⟨g, 1, none⟩ = some (.slice ba bn bc)) (go_keep)
      (first
      | (go_at_call 30; (with_reducible refine Calls.mono (CLQ.out _ (adrew1 _)) ?_); rintro e v1 ⟨⟨sa7, sn7, sc7, aa7, an7, ac7, s7, a7⟩, rfl, hI, hs, ha, hO, hq⟩; have H7 := Lib.hid ((H3.out.via (adrew1 w3)).via hq); have C2 := Lib.hid (CYT.out v1 _ (abvia (adrew1 w3) hq) hI hs ha); have C3 := Lib.hid (CYT.out (v1.alloc (.cells #[.slice none 0 0, .slice none 0 0] 38)) _ (abvia (abvia (adrew1 w3) hq) (abal _ _)) (hI.via (abal _ _)) hs ha); simp only [Ar.v] at C2 C3 ⊢; have hsz := hq.size; have hg5 := HG5'.out; have ne3 : ¬ g = v1.heap.size := (by simp at hsz; omega); have ne4 : ¬ v1.heap.size = g := (by simp at hsz; omega); clear CLQ hI hs ha hO hq y0 y1 hsz hg5; have y0 := H7.out.cell (i := 0) rfl 0 _ rfl; have y1 := H7.out.cell (i := 0) rfl 1 _ rfl)
      | (go_at_call 30; (with_reducible refine Calls.mono (CLQ.out _ HD1.out) ?_); rintro e v1 ⟨⟨sa7, sn7, sc7, aa7, an7, ac7, s7, a7⟩, rfl, hI, hs, ha, hO, hq⟩; have H7 := Lib.hid (((H3.out.alloc 38 2 1 #[.slice none 0 0, .slice none 0 0] rfl (by decide)).via (adrew1 _)).via hq); have C4 := Lib.hid (CYT.out v1 _ (abvia HD1.out hq) hI hs ha); simp only [Ar.v] at C4 ⊢; clear CLQ hI hs ha hO hq y0 y1; have y0 := H7.out.cell (i := 0) rfl 0 _ rfl; have y1 := H7.out.cell (i := 0) rfl 1 _ rfl; have x0 := H7.out.cell (i := 1) rfl 0 _ rfl; have x1 := H7.out.cell (i := 1) rfl 1 _ rfl; have x2 := H7.out.frozen (i := 1) rfl 0; have x3 := H7.out.frozen (i := 1) rfl 1)
      | (have hreq := C2; go_at_call 29; (with_reducible refine Calls.mono C2.out ?_); rintro e v2 ⟨⟨sa8, sn8, sc8, aa8, an8, ac8, s8, a8⟩, rfl, hI, hs, ha, hO, hq⟩; have hlt := (H7.out.rlt (i := 0) rfl).1; have hsz := hq.size; have ne5 : ¬ g = v2.heap.size := (by omega); have ne6 : ¬ v2.heap.size = g := (by omega); have H8 := Lib.hid (H7.out.arrNew hI hO hq); have HV8 := Lib.hid (And.intro hs ha); simp only [Ar.v]; clear hI hs ha hO hq hreq C2 C3 y0 y1 hlt hsz; have y0 := H8.out.cell (i := 0) rfl 0 _ rfl; have y1 := H8.out.cell (i := 0) rfl 1 _ rfl)
      | (have hreq := C3; go_at_call 29; (with_reducible refine Calls.mono C3.out ?_); rintro e v2 ⟨⟨sa8, sn8, sc8, aa8, an8, ac8, s8, a8⟩, rfl, hI, hs, ha, hO, hq⟩; have H8 := Lib.hid ((H7.out.alloc 38 2 1 #[.slice none 0 0, .slice none 0 0] rfl (by decide)).arrNew hI hO hq); have HV8 := Lib.hid (And.intro hs ha); simp only [Ar.v]; clear hI hs ha hO hq hreq C2 C3 y0 y1; have y0 := H8.out.cell (i := 0) rfl 0 _ rfl; have y1 := H8.out.cell (i := 0) rfl 1 _ rfl; have x0 := H8.out.cell (i := 1) rfl 0 _ rfl; have x1 := H8.out.cell (i := 1) rfl 1 _ rfl; have x2 := H8.out.frozen (i := 1) rfl 0; have x3 := H8.out.frozen (i := 1) rfl 1)
      | (have hreq := C4; go_at_call 29; (with_reducible refine Calls.mono C4.out ?_); rintro e v2 ⟨⟨sa8, sn8, sc8, aa8, an8, ac8, s8, a8⟩, rfl, hI, hs, ha, hO, hq⟩; have H8 := Lib.hid (H7.out.arrNew hI hO hq); have HV8 := Lib.hid (And.intro hs ha); simp only [Ar.v]; clear hI hs ha hO hq hreq C4 y0 y1 x0 x1 x2 x3; have y0 := H8.out.cell (i := 0) rfl 0 _ rfl; have y1 := H8.out.cell (i := 0) rfl 1 _ rfl; have x0 := H8.out.cell (i := 1) rfl 0 _ rfl; have x1 := H8.out.cell (i := 1) rfl 1 _ rfl; have x2 := H8.out.frozen (i := 1) rfl 0; have x3 := H8.out.frozen (i := 1) rfl 1)
      )
    all_goals
      go_wp2_with fail
      go_meet
      first
      | exact ⟨v2.heap.size, ⟨sa8, sn8, sc8, aa8, an8, ac8, s8, a8⟩, rfl, rfl, (H8.out.alloc 38 2 1 #[.slice sa8 sn8 sc8, .slice aa8 an8 ac8] rfl (by decide)).pick [0, 1, 2] (by decide), HV8⟩
      | exact ⟨v1.heap.size, ⟨sa8, sn8, sc8, aa8, an8, ac8, s8, a8⟩, rfl, rfl, ((H8.out.put (i := 1) rfl 0 (.slice sa8 sn8 sc8)).put (i := 1) rfl 1 (.slice aa8 an8 ac8)).pick [0, 2, 1] (by decide), HV8⟩
      | exact ⟨w3.heap.size, ⟨sa8, sn8, sc8, aa8, an8, ac8, s8, a8⟩, rfl, rfl, ((H8.out.put (i := 1) rfl 0 (.slice sa8 sn8 sc8)).put (i := 1) rfl 1 (.slice aa8 an8 ac8)).pick [0, 2, 1] (by decide), HV8⟩
  case rest =>
    obtain ⟨g1, ⟨sa1, sn1, sc1, aa1, an1, ac1, s1, a1⟩, rfl, rfl, HO1, HV1⟩ := hcut
    simp only at HO1 HV1
    obtain ⟨U1, hU⟩ : ∃ z : World, z = wc := ⟨_, rfl⟩
    subst hU
    clear ne1 ne2 HD1 HG5' y0 y1
    have z0 := HO1.out.cell (i := 0) rfl 0 _ rfl
    have z1 := HO1.out.cell (i := 0) rfl 1 _ rfl
    have cm := may6_any (HY.out.below HO1.out.belowN (Nat.le_refl _))
    simp only [Ar.v] at cm
    rw [decide_eq_true HM.out] at cm
    have CM := Lib.hid cm
    clear cm H3 CLQ CYT
    go_wp2_with fail
    refine CM.out.mono ?_; rintro e w4 ⟨rfl, hb⟩
    have h5 := (HO1.out.via hb).alloc 4 1 tn (Array.replicate tn (.bool false)) (by simp) (by unfold maxLen; omega)
    rw [Array.toList_replicate, ← nbL_nil] at h5
    obtain ⟨gN, HGN⟩ : ∃ z, Hid (w4.heap.size = z) := ⟨_, rfl⟩
    rw [HGN.out] at h5
    have H5 : Hid (Sp Non w (w4.alloc (.cells (Array.replicate tn (.bool false)) 4)) [Pt.row ⟨38, 2, some ⟨g, 0, none⟩, 1, 1, [.slice ta tn tc, .slice ba bn bc]⟩, Pt.arr ⟨sa1, sn1, sc1, aa1, an1, ac1, s1, a1⟩, Pt.row ⟨38, 2, some ⟨g1, 0, none⟩, 1, 1, [.slice sa1 sn1 sc1, .slice aa1 an1 ac1]⟩, Pt.row ⟨4, 1, some ⟨gN, 0, none⟩, tn, tn, nbL tn (N.take 0)⟩]) := h5
    clear z0 z1 hb h5 HO1 CM
    go_wp2_with fail
    rw [HGN.out]
    go_loopw [10] (fun v wr => ∃ i : Nat, i ≤ n ∧ v = .int .i64 i ∧ Hid (Sp Non w wr [Pt.row ⟨38, 2, some ⟨g, 0, none⟩, 1, 1, [.slice ta tn tc, .slice ba bn bc]⟩, Pt.arr ⟨sa1, sn1, sc1, aa1, an1, ac1, s1, a1⟩, Pt.row ⟨38, 2, some ⟨g1, 0, none⟩, 1, 1, [.slice sa1 sn1 sc1, .slice aa1 an1 ac1]⟩, Pt.row ⟨4, 1, some ⟨gN, 0, none⟩, tn, tn, nbL tn (N.take i)⟩])) (fun v _ => n - (RowKit.intOf v).toNat)
    case atStart => exact ⟨0, Nat.zero_le _, rfl, H5⟩
    case round =>
      clear H5
      obtain ⟨i, hi, rfl, HO⟩ := hrel
      by_cases hlt : i < n
      · have hlt' : (i : Int) < n := by omega
        obtain ⟨b2, o2, e2, hc2⟩ := (HL.out.below HO.out.belowN (Nat.le_refl _)).at (by omega)
        have d1 := hc2 i hlt
        subst e2
        obtain ⟨v1, v2, v3⟩ := HZ.out i hlt
        have hrn := HN.out.2.1 _ (mem_at (A := N) (i := i) (by rw [HN.out.2.2]; exact hlt))
        obtain ⟨j, hj⟩ : ∃ j : Nat, N.getD i 0 = (j : Int) := ⟨(N.getD i 0).toNat, by omega⟩
        have hnot := take_not HN.out.1 (i := i) (by rw [HN.out.2.2]; exact hlt)
        have htk := take_at (N := N) (i := i) (by rw [HN.out.2.2]; exact hlt)
        rw [hj] at hrn hnot htk v3
        obtain ⟨x, HX⟩ : ∃ z, Hid (zs.getD i 0 = z) := ⟨_, rfl⟩
        rw [HX.out] at d1 v1 v2 v3
        have hjt : j < tn := by omega
        have hjt' : (j : Int) < tn := by omega
        have q1 : decide (x < -(tn : Int)) = false := by simp; omega
        have q2 : decide ((tn : Int) ≤ x) = false := by simp; omega
        have w1 : IntKind.i64.wrap (-(tn : Int)) = -(tn : Int) := IntWalk.i64_in _ (by omega)
        have t1 := HO.out.cell (i := 3) rfl j (.bool false) (by rw [nbL_at hjt, hnot])
        have t2 := HO.out.frozen (i := 3) rfl j
        have HPUT := HO.out.put (i := 3) rfl j (.bool true)
        rw [nbL_set hjt, ← htk] at HPUT
        have HNX := Lib.hid HPUT
        have V3 := Lib.hid v3
        have V12 := Lib.hid (And.intro v1 v2)
        clear hc2 hrn hnot htk hj HPUT HO v3 v1 v2
        by_cases h0 : x < 0
        · have q3 : decide (x < 0) = true := by simpa using h0
          have w2 : IntKind.i64.wrap (x + (tn : Int)) = (j : Int) := by
            have h := V3.out
            unfold nmd at h
            rw [if_pos h0] at h
            rw [IntWalk.i64_in _ (by have := V12.out; omega), h]
          clear h0
          go_wp2_with fail
          go_roundw
          case rel => exact ⟨i + 1, by omega, by go_num, HNX⟩
          case measure => simp [RowKit.intOf]; omega
        · have q3 : decide (x < 0) = false := by simpa using h0
          have h := V3.out
          unfold nmd at h
          rw [if_neg h0] at h
          subst h
          clear h0
          go_wp2_with fail
          go_roundw
          case rel => exact ⟨i + 1, by omega, by go_num, HNX⟩
          case measure => simp [RowKit.intOf]; omega
      · obtain rfl : n = i := by omega
        have hge : ¬ ((n : Int) < n) := by omega
        have hnt : N.take n = N := List.take_of_length_le (by rw [HN.out.2.2]; exact Nat.le_refl _)
        have h6 := HO.out.intsNew (E := 2) (zs := []) (World.ownsRow_nil _ _ _ _) (Below.refl _ _) (by omega) (fun i => by simp [List.getD])
        rw [hnt] at h6
        have H6 : Hid (Sp Non w wr [Pt.row ⟨38, 2, some ⟨g, 0, none⟩, 1, 1, [.slice ta tn tc, .slice ba bn bc]⟩, Pt.arr ⟨sa1, sn1, sc1, aa1, an1, ac1, s1, a1⟩, Pt.row ⟨38, 2, some ⟨g1, 0, none⟩, 1, 1, [.slice sa1 sn1 sc1, .slice aa1 an1 ac1]⟩, Pt.row ⟨4, 1, some ⟨gN, 0, none⟩, tn, tn, nbL tn N⟩, Pt.ints 2 none 0 0 (trX 0 N)]) := h6
        clear h6 hnt HO hlt hi
        go_wp2_with fail
        go_loopw [9, 12] (fun v9 v12 wr => ∃ (i : Nat) (qo : Option Addr) (m qc : Nat), i ≤ tn ∧ v12 = .int .i64 i ∧ v9 = .slice qo m qc ∧ Hid (Sp Non w wr [Pt.row ⟨38, 2, some ⟨g, 0, none⟩, 1, 1, [.slice ta tn tc, .slice ba bn bc]⟩, Pt.arr ⟨sa1, sn1, sc1, aa1, an1, ac1, s1, a1⟩, Pt.row ⟨38, 2, some ⟨g1, 0, none⟩, 1, 1, [.slice sa1 sn1 sc1, .slice aa1 an1 ac1]⟩, Pt.row ⟨4, 1, some ⟨gN, 0, none⟩, tn, tn, nbL tn N⟩, Pt.ints 2 qo m qc (trX i N)])) (fun _ v12 _ => tn - (RowKit.intOf v12).toNat)
        case atStart => exact ⟨0, none, 0, 0, Nat.zero_le _, rfl, rfl, H6⟩
        case round =>
          clear H6
          obtain ⟨i, qo, m, qc, hi, rfl, rfl, HO⟩ := hrel
          have hml := (HO.out.ls (i := 4) rfl).len
          have hxl := trX_len i N
          by_cases hlt : i < tn
          · have hlt' : (i : Int) < tn := by omega
            have hxs := trX_succ i N
            by_cases hc : N.contains (i : Int) = true
            · have t1 := HO.out.cell (i := 3) rfl i (.bool true) (by rw [nbL_at hlt, hc])
              rw [if_pos hc, List.append_nil] at hxs
              have HNX : Hid (Sp Non w wr [Pt.row ⟨38, 2, some ⟨g, 0, none⟩, 1, 1, [.slice ta tn tc, .slice ba bn bc]⟩, Pt.arr ⟨sa1, sn1, sc1, aa1, an1, ac1, s1, a1⟩, Pt.row ⟨38, 2, some ⟨g1, 0, none⟩, 1, 1, [.slice sa1 sn1 sc1, .slice aa1 an1 ac1]⟩, Pt.row ⟨4, 1, some ⟨gN, 0, none⟩, tn, tn, nbL tn N⟩, Pt.ints 2 qo m qc (trX (i + 1) N)]) := by
                show Sp _ _ _ _
                rw [hxs]; exact HO.out
              clear hxs hc HO
              go_wp2_with fail
              go_roundw
              case rel => exact ⟨i + 1, qo, m, qc, by omega, by go_num, rfl, HNX⟩
              case measure => simp [RowKit.intOf]; omega
            · have hc' : N.contains (i : Int) = false := by simpa using hc
              have t1 := HO.out.cell (i := 3) rfl i (.bool false) (by rw [nbL_at hlt, hc'])
              rw [if_neg hc] at hxs
              have HXS := Lib.hid hxs
              have HV2 := Lib.hid (HO.out.via (abal wr (.cells #[.int .i64 (i : Int)] 2)))
              have hb1 : (m + 1) * 8 ≤ 140737488351232 := by omega
              have hvr : -9223372036854775808 ≤ (i : Int) ∧ (i : Int) ≤ 9223372036854775807 := by omega
              clear hxs hc hc' HO
              go_wp2_with (at_builtin; refine Sp.wpList_loc (i := 4) HV2.out rfl _ _ 28 rfl 2 i0 Tryz.underlying28 HI0.out.1 HI0.out.2.1 HI0.out.2.2.1 HI0.out.2.2.2 rfl rfl rfl (ls_lit6 _ _ hvr) hb1 ?_)
              intro b9 d9 w9 h9
              have HNX : Hid (Sp Non w w9 [Pt.row ⟨38, 2, some ⟨g, 0, none⟩, 1, 1, [.slice ta tn tc, .slice ba bn bc]⟩, Pt.arr ⟨sa1, sn1, sc1, aa1, an1, ac1, s1, a1⟩, Pt.row ⟨38, 2, some ⟨g1, 0, none⟩, 1, 1, [.slice sa1 sn1 sc1, .slice aa1 an1 ac1]⟩, Pt.row ⟨4, 1, some ⟨gN, 0, none⟩, tn, tn, nbL tn N⟩, Pt.ints 2 b9 (m + 1) d9 (trX (i + 1) N)]) := by
                show Sp _ _ _ _
                rw [HXS.out]; exact h9
              clear h9 HV2 HXS
              go_wp2_with fail
              go_roundw
              case rel => exact ⟨i + 1, b9, m + 1, d9, by omega, by go_num, rfl, HNX⟩
              case measure => simp [RowKit.intOf]; omega
          · obtain rfl : tn = i := by omega
            have hge2 : ¬ ((tn : Int) < tn) := by omega
            have H7 : Hid (Sp Non w wr [Pt.row ⟨38, 2, some ⟨g, 0, none⟩, 1, 1, [.slice ta tn tc, .slice ba bn bc]⟩, Pt.arr ⟨sa1, sn1, sc1, aa1, an1, ac1, s1, a1⟩, Pt.row ⟨38, 2, some ⟨g1, 0, none⟩, 1, 1, [.slice sa1 sn1 sc1, .slice aa1 an1 ac1]⟩, Pt.row ⟨4, 1, some ⟨gN, 0, none⟩, tn, tn, nbL tn N⟩, Pt.ints 2 qo (m + 0) qc (trX tn N ++ N.take 0)]) := by
              show Sp _ _ _ _
              rw [List.take_zero, List.append_nil]; exact HO.out
            have HML : Hid (m + n = tn) := by
              have h := HAA.out.1
              rw [← HAT.out, List.length_append, hml, HN.out.2.2] at h
              exact h
            clear hlt hi HO hml hxl
            go_wp2_with fail
            go_loopw [9, 13] (fun v9 v13 wr => ∃ (i : Nat) (qo : Option Addr) (qc : Nat), i ≤ n ∧ v13 = .int .i64 i ∧ v9 = .slice qo (m + i) qc ∧ Hid (Sp Non w wr [Pt.row ⟨38, 2, some ⟨g, 0, none⟩, 1, 1, [.slice ta tn tc, .slice ba bn bc]⟩, Pt.arr ⟨sa1, sn1, sc1, aa1, an1, ac1, s1, a1⟩, Pt.row ⟨38, 2, some ⟨g1, 0, none⟩, 1, 1, [.slice sa1 sn1 sc1, .slice aa1 an1 ac1]⟩, Pt.row ⟨4, 1, some ⟨gN, 0, none⟩, tn, tn, nbL tn N⟩, Pt.ints 2 qo (m + i) qc (trX tn N ++ N.take i)])) (fun _ v13 _ => n - (RowKit.intOf v13).toNat)
            case atStart => exact ⟨0, qo, qc, Nat.zero_le _, rfl, rfl, H7⟩
            case round =>
              clear H7
              obtain ⟨i, qo, qc, hi, rfl, rfl, HO⟩ := hrel
              by_cases hlt : i < n
              · have hlt' : (i : Int) < n := by omega
                obtain ⟨b2, o2, e2, hc2⟩ := (HL.out.below HO.out.belowN (Nat.le_refl _)).at (by omega)
                have d1 := hc2 i hlt
                subst e2
                obtain ⟨v1, v2, v3⟩ := HZ.out i hlt
                have hrn := HN.out.2.1 _ (mem_at (A := N) (i := i) (by rw [HN.out.2.2]; exact hlt))
                obtain ⟨j, hj⟩ : ∃ j : Nat, N.getD i 0 = (j : Int) := ⟨(N.getD i 0).toNat, by omega⟩
                have htk := take_at (N := N) (i := i) (by rw [HN.out.2.2]; exact hlt)
                rw [hj] at hrn htk v3
                obtain ⟨x, HX⟩ : ∃ z, Hid (zs.getD i 0 = z) := ⟨_, rfl⟩
                rw [HX.out] at d1 v1 v2 v3
                have w1 : IntKind.i64.wrap (x + (tn : Int)) = x + (tn : Int) := IntWalk.i64_in _ (by omega)
                have w2 : (x + (tn : Int)).tmod (tn : Int) = (j : Int) := by
                  unfold nmd at v3
                  rw [Int.tmod_eq_emod_of_nonneg (by omega)]
                  by_cases h0 : x < 0
                  · rw [if_pos h0] at v3
                    rw [Int.emod_eq_of_lt (by omega) (by omega), v3]
                  · rw [if_neg h0] at v3
                    rw [Int.add_emod_right, Int.emod_eq_of_lt (by omega) (by omega), v3]
                have z0 : ¬ (tn : Int) = 0 := by omega
                have z1 : ((tn : Int) == 0) = false := by simpa using z0
                have z2 : ¬ tn = 0 := by omega
                have hvr : -9223372036854775808 ≤ (j : Int) ∧ (j : Int) ≤ 9223372036854775807 := by omega
                have HV2 := Lib.hid (HO.out.via (abal wr (.cells #[.int .i64 (j : Int)] 2)))
                have hb1 : (m + i + 1) * 8 ≤ 140737488351232 := by have := HML.out; omega
                have HTK := Lib.hid htk
                clear hc2 hrn htk hj HO v3 v1 v2
                go_wp2_with (at_builtin; refine Sp.wpList_loc (i := 4) HV2.out rfl _ _ 28 rfl 2 i0 Tryz.underlying28 HI0.out.1 HI0.out.2.1 HI0.out.2.2.1 HI0.out.2.2.2 rfl rfl rfl (ls_lit6 _ _ hvr) hb1 ?_)
                intro b9 d9 w9 h9
                have HNX : Hid (Sp Non w w9 [Pt.row ⟨38, 2, some ⟨g, 0, none⟩, 1, 1, [.slice ta tn tc, .slice ba bn bc]⟩, Pt.arr ⟨sa1, sn1, sc1, aa1, an1, ac1, s1, a1⟩, Pt.row ⟨38, 2, some ⟨g1, 0, none⟩, 1, 1, [.slice sa1 sn1 sc1, .slice aa1 an1 ac1]⟩, Pt.row ⟨4, 1, some ⟨gN, 0, none⟩, tn, tn, nbL tn N⟩, Pt.ints 2 b9 (m + (i + 1)) d9 (trX tn N ++ N.take (i + 1))]) := by
                  show Sp _ _ _ _
                  rw [HTK.out]; exact h9
                clear h9 HV2 HTK
                go_wp2_with fail
                go_roundw
                case rel => exact ⟨i + 1, b9, d9, by omega, by go_num, rfl, HNX⟩
                case measure => simp [RowKit.intOf]; omega
              · obtain rfl : n = i := by omega
                have hge3 : ¬ ((n : Int) < n) := by omega
                have hnt : N.take n = N := List.take_of_length_le (by rw [HN.out.2.2]; exact Nat.le_refl _)
                have h8 := HO.out
                rw [hnt, HAT.out] at h8
                have hmn := HML.out
                have h9 := ((h8.zeros6 2 tn (by omega)).toRow (i := 5) rfl).intsNew (E := 3) (zs := []) (World.ownsRow_nil _ _ _ _) (Below.refl _ _) (by omega) (fun i => by simp [List.getD])
                obtain ⟨gB, HGB⟩ : ∃ z, Hid (wr.heap.size = z) := ⟨_, rfl⟩
                rw [HGB.out, hmn] at h9
                have H9 : Hid (Sp Non w (wr.alloc (.cells (Array.replicate tn (.int .i64 0)) 2)) [Pt.row ⟨38, 2, some ⟨g, 0, none⟩, 1, 1, [.slice ta tn tc, .slice ba bn bc]⟩, Pt.arr ⟨sa1, sn1, sc1, aa1, an1, ac1, s1, a1⟩, Pt.row ⟨38, 2, some ⟨g1, 0, none⟩, 1, 1, [.slice sa1 sn1 sc1, .slice aa1 an1 ac1]⟩, Pt.row ⟨4, 1, some ⟨gN, 0, none⟩, tn, tn, nbL tn N⟩, Pt.ints 2 qo tn qc A, Pt.row ⟨2, 1, some ⟨gB, 0, none⟩, tn, tn, (puL A (rgI tn) tn 0).map (Value.int .i64)⟩, Pt.ints 3 none 0 0 ((tpS A s).take 0)]) := h9
                clear h8 h9 hnt HO hlt hi
                go_wp2_with fail
                rw [HGB.out]
                go_loopw [15, 16] (fun v15 v16 wr => ∃ (i : Nat) (so : Option Addr) (sc : Nat), i ≤ tn ∧ v16 = .int .i64 i ∧ v15 = .slice so i sc ∧ Hid (Sp Non w wr [Pt.row ⟨38, 2, some ⟨g, 0, none⟩, 1, 1, [.slice ta tn tc, .slice ba bn bc]⟩, Pt.arr ⟨sa1, sn1, sc1, aa1, an1, ac1, s1, a1⟩, Pt.row ⟨38, 2, some ⟨g1, 0, none⟩, 1, 1, [.slice sa1 sn1 sc1, .slice aa1 an1 ac1]⟩, Pt.row ⟨4, 1, some ⟨gN, 0, none⟩, tn, tn, nbL tn N⟩, Pt.ints 2 qo tn qc A, Pt.row ⟨2, 1, some ⟨gB, 0, none⟩, tn, tn, (puL A (rgI tn) tn i).map (Value.int .i64)⟩, Pt.ints 3 so i sc ((tpS A s).take i)])) (fun _ v16 _ => tn - (RowKit.intOf v16).toNat)
                case atStart => exact ⟨0, none, 0, Nat.zero_le _, rfl, rfl, H9⟩
                case round =>
                  clear H9
                  obtain ⟨i, so, sc, hi, rfl, rfl, HO⟩ := hrel
                  by_cases hlt : i < tn
                  · have hlt' : (i : Int) < tn := by omega
                    have hrn := HAA.out.2 _ (mem_at (A := A) (i := i) (by rw [HAA.out.1]; exact hlt))
                    obtain ⟨j, hj⟩ : ∃ j : Nat, A.getD i 0 = (j : Int) := ⟨(A.getD i 0).toNat, by omega⟩
                    obtain ⟨b2, o2, e2, hc2⟩ := (HO.out.ls (i := 4) rfl).at (by omega)
                    have d1 := hc2 i hlt
                    subst e2
                    have hpl := puL_len A (rgI tn) tn i
                    have hsx : (puL A (rgI tn) tn i).set j (i : Int) = puL A (rgI tn) tn (i + 1) := by rw [puL, hj, Int.toNat_natCast, rgI_at hlt]
                    have htp : (tpS A s).getD i 0 = s.getD j 0 := by rw [tpS_at (by rw [HAA.out.1]; exact hlt), hj, Int.toNat_natCast]
                    have hst := take_at (N := tpS A s) (i := i) (by rw [HTL.out]; exact hlt)
                    rw [htp] at hst
                    rw [hj] at d1 hrn
                    have hjt : j < tn := by omega
                    have hjt' : (j : Int) < tn := by omega
                    have t1 := HO.out.cell (i := 5) rfl j (.int .i64 ((puL A (rgI tn) tn i).getD j 0)) (by rw [getD_map_int _ _ (by rw [hpl]; exact hjt)])
                    have t2 := HO.out.frozen (i := 5) rfl j
                    obtain ⟨oi, HOI⟩ : ∃ z, Hid ((puL A (rgI tn) tn i).getD j 0 = z) := ⟨_, rfl⟩
                    rw [HOI.out] at t1
                    have hput := HO.out.put (i := 5) rfl j (.int .i64 (i : Int))
                    rw [← List.map_set, hsx] at hput
                    obtain ⟨W34, HW34⟩ : ∃ z, Hid (wr.setCell ⟨gB, j, none⟩ (.int .i64 (i : Int)) = z) := ⟨_, rfl⟩
                    rw [HW34.out] at hput
                    have HPUT : Hid (Sp Non w W34 [Pt.row ⟨38, 2, some ⟨g, 0, none⟩, 1, 1, [.slice ta tn tc, .slice ba bn bc]⟩, Pt.arr ⟨sa1, sn1, sc1, aa1, an1, ac1, s1, a1⟩, Pt.row ⟨38, 2, some ⟨g1, 0, none⟩, 1, 1, [.slice sa1 sn1 sc1, .slice aa1 an1 ac1]⟩, Pt.row ⟨4, 1, some ⟨gN, 0, none⟩, tn, tn, nbL tn N⟩, Pt.ints 2 (some ⟨b2, o2, none⟩) tn qc A, Pt.row ⟨2, 1, some ⟨gB, 0, none⟩, tn, tn, (puL A (rgI tn) tn (i + 1)).map (Value.int .i64)⟩, Pt.ints 3 so i sc ((tpS A s).take i)]) := hput
                    obtain ⟨b7, o7, e7, hc7⟩ := (HY.out.below HPUT.out.belowN (Nat.le_refl _)).shp.at (by simp only; omega)
                    have d7 := hc7 j (by simp only; exact hjt)
                    simp only at e7 d7
                    subst e7
                    obtain ⟨b6, o6, e6, hc6⟩ := (HPUT.out.ls (i := 4) rfl).at (by omega)
                    have d6 := hc6 i hlt
                    simp only [Option.some.injEq, Addr.mk.injEq, and_true] at e6
                    obtain ⟨rfl, rfl⟩ := e6
                    rw [hj] at d6
                    have d8 := HPUT.out.cell (i := 0) rfl 0 _ rfl
                    have hsr := HY.out.shp.rng j
                    simp only at hsr
                    have HST := Lib.hid hst
                    obtain ⟨sj, HSJ⟩ : ∃ z, Hid (s.getD j 0 = z) := ⟨_, rfl⟩
                    rw [HSJ.out] at d7 hsr HST
                    have HV2 := Lib.hid ((HPUT.out.via (abal W34 (.cells #[.int .i64 sj] 3))).via (adrew1 _))
                    have LL := Lib.hid ((ls_lit6 W34 3 hsr).via (adrew1 _))
                    have hb1 : (i + 1) * 8 ≤ 140737488351232 := by omega
                    clear hc2 hc6 hc7 hrn hj hpl hsx htp hst hput HOI HO
                    go_upto_region 35 with fail
                    rw [HW34.out]
                    clear t1 t2 d1
                    go_region_law (first
                      | (refine Sp.step_loc HV2.out rfl _ _ 25 (by rfl) 3 j0 Tryz.underlying25 HJ0.out.1 HJ0.out.2.1 HJ0.out.2.2.1 HJ0.out.2.2.2 (i := 6) rfl (by rfl) (by rfl) LL.out hb1 ?_; intro b9 d9 w9 h9))
                    all_goals
                      have HNX : Hid (Sp Non w w9 [Pt.row ⟨38, 2, some ⟨g, 0, none⟩, 1, 1, [.slice (some ⟨b7, o7, none⟩) tn tc, .slice ba bn bc]⟩, Pt.arr ⟨sa1, sn1, sc1, aa1, an1, ac1, s1, a1⟩, Pt.row ⟨38, 2, some ⟨g1, 0, none⟩, 1, 1, [.slice sa1 sn1 sc1, .slice aa1 an1 ac1]⟩, Pt.row ⟨4, 1, some ⟨gN, 0, none⟩, tn, tn, nbL tn N⟩, Pt.ints 2 (some ⟨b2, o2, none⟩) tn qc A, Pt.row ⟨2, 1, some ⟨gB, 0, none⟩, tn, tn, (puL A (rgI tn) tn (i + 1)).map (Value.int .i64)⟩, Pt.ints 3 b9 (i + 1) d9 ((tpS A s).take (i + 1))]) := by
                        show Sp _ _ _ _
                        rw [HST.out]; exact h9
                      clear h9 HV2 LL
                      go_wp2_with fail
                      go_roundw
                      case rel => exact ⟨i + 1, b9, d9, by omega, by go_num, rfl, HNX⟩
                      case measure => simp [RowKit.intOf]; omega
                  · obtain rfl : tn = i := by omega
                    have hge4 : ¬ ((tn : Int) < tn) := by omega
                    have htt : (tpS A s).take tn = tpS A s := List.take_of_length_le (by rw [HTL.out]; exact Nat.le_refl _)
                    have hrr : ∀ j, -9223372036854775808 ≤ (puL A (rgI tn) tn tn).getD j 0 ∧ (puL A (rgI tn) tn tn).getD j 0 ≤ 9223372036854775807 := fun j => puL_rng (fun i => by
                      by_cases h : i < tn
                      · rw [rgI_at h]; omega
                      · simp [List.getD, List.getElem?_eq_none (show (rgI tn).length ≤ i by rw [rgI_len]; omega)]) tn j
                    have h10 := HO.out.toInts (i := 5) rfl (by omega) hrr
                    rw [htt, ← HS.out, ← HB1.out] at h10
                    have H10_ := h10
                    try simp only [List.cons_append, List.nil_append, List.set_cons_zero, List.set_cons_succ, List.map_cons, List.map_nil, List.getD_cons_zero, List.getD_cons_succ, World.size_alloc] at H10_
                    have H10 := Lib.hid H10_
                    clear H10_
                    clear h10 htt hrr HO hlt hi
                    have HQ : Hid (∀ w9, Below wr.heap.size wr w9 → Calls Tryz.prog 31 #[.slice sa1 sn1 sc1, .slice so tn sc] w9 (Ret w9 (.bool true))) := fun w9 hb => by
                      have h := eqints_any ((H10.out.via hb).isA (i := 1) rfl).shp ((H10.out.via hb).ls (i := 6) rfl)
                      rw [decide_eq_true (by simp only; exact HV1.out.1)] at h
                      exact h
                    have HLI : Hid (∀ w9, Below wr.heap.size wr w9 → Calls Tryz.prog 30 #[.slice (some ⟨gB, 0, none⟩) tn tn] w9 (MadeA w9 [(tn : Int)] B)) := fun w9 hb => list6b_any ((H10.out.via hb).ls (i := 5) rfl)
                    have HBO : Hid (∀ (w9 : World) (Z : Ar), Below wr.heap.size wr w9 → Z.Is w9 → Z.s = [(tn : Int)] → Z.a = B → Calls Tryz.prog 27 #[.int .i64 33, Z.v, .agg #[.slice sa1 sn1 sc1, .slice aa1 an1 ac1], .agg #[.slice ta tn tc, .slice ba bn bc]] w9 (RetB w9 (.bool true))) := fun w9 Z hb hZ hs ha =>
                      hD.out w9 Z ⟨sa1, sn1, sc1, aa1, an1, ac1, s1, a1⟩ (H10.out.via hb).belowN hZ hs ha ((H10.out.via hb).isA (i := 1) rfl) HV1.out
                    have z0 := H10.out.cell (i := 0) rfl 0 _ rfl
                    have z1 := H10.out.cell (i := 0) rfl 1 _ rfl
                    have z2 := H10.out.cell (i := 2) rfl 0 _ rfl
                    have z3 := H10.out.cell (i := 2) rfl 1 _ rfl
                    go_upto_region 36 with fail
                    go_region_held3 (fun v => v.cell? ⟨g, 0, none⟩ = some (.slice ta tn tc) ∧ v.cell? ⟨g, 1, none⟩ = some (.slice ba bn bc) ∧ v.cell? ⟨g1, 0, none⟩ = some (.slice sa1 sn1 sc1) ∧ v.cell? ⟨g1, 1, none⟩ = some (.slice aa1 an1 ac1)) (go_keep)
                      (first
                      | (go_at_call 31; (with_reducible refine Calls.mono (HQ.out _ (adrew1 _)) ?_); rintro e v1 ⟨rfl, hq⟩; have K1 : Hid (Below wr.heap.size wr v1) := (by show Below _ _ _; obtain ⟨n1, h⟩ := hq; rw [h]; exact abvia (adrew1 _) (adrew _ _)); clear hq HQ z0 z1 z2 z3; have z0 := (H10.out.via K1.out).cell (i := 0) rfl 0 _ rfl; have z1 := (H10.out.via K1.out).cell (i := 0) rfl 1 _ rfl; have z2 := (H10.out.via K1.out).cell (i := 2) rfl 0 _ rfl; have z3 := (H10.out.via K1.out).cell (i := 2) rfl 1 _ rfl)
                      | (have hreq := K1; go_at_call 30; (with_reducible refine Calls.mono (HLI.out _ K1.out) ?_); rintro e v2 ⟨⟨ta2, tn2, tc2, ua2, un2, uc2, ts2, us2⟩, rfl, hI, hs, ha, -, hq⟩; have K2 : Hid (Below wr.heap.size wr v2) := (by show Below _ _ _; exact abvia K1.out hq); have F1 := Lib.hid (HBO.out v2 _ K2.out hI hs ha); simp only [Ar.v] at F1 ⊢; clear hI hs ha hq hreq K1 z0 z1 z2 z3; have z0 := (H10.out.via K2.out).cell (i := 0) rfl 0 _ rfl; have z1 := (H10.out.via K2.out).cell (i := 0) rfl 1 _ rfl; have z2 := (H10.out.via K2.out).cell (i := 2) rfl 0 _ rfl; have z3 := (H10.out.via K2.out).cell (i := 2) rfl 1 _ rfl)
                      | (have hreq := F1; go_at_call 27; (with_reducible refine Calls.mono F1.out ?_); rintro e v3 ⟨rfl, hq⟩; have K3 : Hid (Below wr.heap.size wr v3) := (by show Below _ _ _; exact abvia K2.out hq); clear hq F1 hreq z0 z1 z2 z3; have z0 := (H10.out.via K3.out).cell (i := 0) rfl 0 _ rfl; have z1 := (H10.out.via K3.out).cell (i := 0) rfl 1 _ rfl; have z2 := (H10.out.via K3.out).cell (i := 2) rfl 0 _ rfl; have z3 := (H10.out.via K3.out).cell (i := 2) rfl 1 _ rfl)
                      )
                    all_goals
                      have HB := Lib.hid (H10.out.via K3.out).belowN
                      go_wp2
                      go_ret
                      exact RetB.mk rfl HB.out
set_option maxRecDepth 100000 in
theorem walkMoldMoves {w : World} {ao : Option Addr} {n c : Nat} {zs : List Int} (hL : Ls w ao n c zs) {Y : Ar} (hY : Y.Is w) :
    Calls Tryz.prog 9 #[.slice ao n c, Y.v] w (RetB w (.bool true)) := by
  have hzl := hL.len
  by_cases h1 : n ≤ 4096
  · have hx := (am_list6 hzl).2 h1
    by_cases h2 : amE Y.s Y.a = 0
    · rcases hg : trG Y.s.length zs [] with ⟨E, N⟩
      by_cases hE : E = 0
      · subst hE
        exact walkMoldMoves_ok hL hY h2 h1 hg
      · refine walkMoldMoves_no hL hY hE fun w9 X hb hX hs ha => ?_
        have hn := hX.shp.len
        have h := d_transpose hX (hY.below hb (Nat.le_refl _)) (by rw [hs, ha]; exact hx) h2 (by rw [hs] at hn; simp at hn; omega)
        have e1 : trE zs Y.s = E := by unfold trE; rw [hg, if_neg hE]
        have e2 : trS zs Y.s = [] := by unfold trS; rw [hg, if_neg hE]
        have e3 : trZ zs Y.s Y.a = [] := by unfold trZ; rw [hg, if_neg hE]
        rw [ha, e1, e2, e3] at h
        exact h
    · exact walkMoldMoves_no hL hY (by decide) fun w9 X hb hX hs ha => mdyad_arg2 hX (hY.below hb (Nat.le_refl _)) (by rw [hs, ha]; exact hx) h2
  · exact walkMoldMoves_no hL hY (by decide) fun w9 X hb hX hs ha => mdyad_arg1 hX (hY.below hb (Nat.le_refl _)) (by rw [hs, ha]; exact fun h => h1 ((am_list6 hzl).1 h))
end Go.Proofs.YthackmkdicpdeaaGreat

/- Contracts of abacuslaw6's list, scalar, table and begun; mold's verbs by their numbers. -/
import Derived.Test.YthackmkdicpdeaaGreatMoldCall
import Derived.Test.YthackmkdicpdeaaGreatMoldTake2
import Derived.Test.YthackmkdicpdeaaGreatMoldRot
import Derived.Test.YthackmkdicpdeaaGreatMoldResh
import Derived.Test.YthackmkdicpdeaaGreatMoldBehind
import Derived.Test.YthackmkdicpdeaaGreatEq4
namespace Go.Proofs.YthackmkdicpdeaaGreat
open Go.RowKit Go.Lib
set_option linter.unusedVariables false
set_option linter.unusedSimpArgs false
attribute [local go_sem] alloc_drewN setCell_drewN
theorem m_head {w : World} {Y : Ar} (hY : Y.Is w) (hm : amE Y.s Y.a = 0) : Calls Tryz.prog 23 #[.int .i64 28, Y.v] w (MadeE w Y.s.tail (enA Y.s Y.a 0) 0) :=
  mmonad_at hY hm (j := 5) (by decide) (.inr ⟨_, rfl⟩) rfl (enters_of Tryz.func105 (by kernel_rfl) rfl) (fun W hb => head_m6 (hY.below hb (Nat.le_refl _)) hm)
theorem m_last {w : World} {Y : Ar} (hY : Y.Is w) (hm : amE Y.s Y.a = 0) : Calls Tryz.prog 23 #[.int .i64 30, Y.v] w (MadeE w Y.s.tail (enA Y.s Y.a (-1)) 0) :=
  mmonad_at hY hm (j := 6) (by decide) (.inl rfl) rfl (enters_of Tryz.func108 (by kernel_rfl) rfl) (fun W hb => last_m6 (hY.below hb (Nat.le_refl _)) hm)
theorem m_rest {w : World} {Y : Ar} (hY : Y.Is w) (hm : amE Y.s Y.a = 0) : Calls Tryz.prog 23 #[.int .i64 29, Y.v] w (MadeE w (paS Y.s Y.a 1) (paA Y.s Y.a 1) (paE Y.s Y.a 1)) :=
  mmonad_at hY hm (j := 7) (by decide) (.inr ⟨_, rfl⟩) rfl (enters_of Tryz.func109 (by kernel_rfl) rfl) (fun W hb => rest_m6 (hY.below hb (Nat.le_refl _)) hm)
theorem m_front {w : World} {Y : Ar} (hY : Y.Is w) (hm : amE Y.s Y.a = 0) : Calls Tryz.prog 23 #[.int .i64 31, Y.v] w (MadeE w (paS Y.s Y.a 0) (paA Y.s Y.a 0) (paE Y.s Y.a 0)) :=
  mmonad_at hY hm (j := 8) (by decide) (.inl rfl) rfl (enters_of Tryz.func112 (by kernel_rfl) rfl) (fun W hb => front_m6 (hY.below hb (Nat.le_refl _)) hm)
theorem m_ravel {w : World} {Y : Ar} (hY : Y.Is w) (hm : amE Y.s Y.a = 0) : Calls Tryz.prog 23 #[.int .i64 24, Y.v] w (MadeE w [(Y.an : Int)] Y.a 0) :=
  mmonad_at hY hm (j := 2) (by decide) (.inr ⟨_, rfl⟩) rfl (enters_of Tryz.func96 (by kernel_rfl) rfl) (fun W hb => ravel_m6 (hY.below hb (Nat.le_refl _)) hm)
theorem m_item {w : World} {Y : Ar} (hY : Y.Is w) (hm : amE Y.s Y.a = 0) : Calls Tryz.prog 23 #[.int .i64 26, Y.v] w (MadeE w (mdS (1 :: Y.s)) (mdA (1 :: Y.s) Y.a) (mdE (1 :: Y.s))) :=
  mmonad_at hY hm (j := 4) (by decide) (.inr ⟨_, rfl⟩) rfl (enters_of Tryz.func101 (by kernel_rfl) rfl) (fun W hb => item_m6 (hY.below hb (Nat.le_refl _)) hm)
theorem m_lengths {w : World} {Y : Ar} (hY : Y.Is w) (hm : amE Y.s Y.a = 0) : Calls Tryz.prog 23 #[.int .i64 23, Y.v] w (MadeE w [(Y.sn : Int)] Y.s 0) :=
  mmonad_at hY hm (j := 1) (by decide) (.inr ⟨_, rfl⟩) rfl (enters_of Tryz.func94 (by kernel_rfl) rfl) (fun W hb => lengths_m6 (hY.below hb (Nat.le_refl _)) hm)
theorem m_tally {w : World} {Y : Ar} (hY : Y.Is w) (hm : amE Y.s Y.a = 0) : Calls Tryz.prog 23 #[.int .i64 22, Y.v] w (MadeE w [] [itE Y.s Y.a] 0) :=
  mmonad_at hY hm (j := 0) (by decide) (.inl rfl) rfl (enters_of Tryz.func91 (by kernel_rfl) rfl) (fun W hb => tally_m6 (hY.below hb (Nat.le_refl _)) hm)
theorem m_reverse {w : World} {Y : Ar} (hY : Y.Is w) (hm : amE Y.s Y.a = 0) : Calls Tryz.prog 23 #[.int .i64 32, Y.v] w (MadeE w (mdS Y.s) (pkA Y.s Y.a (rvF Y.s)) (mdE Y.s)) :=
  mmonad_at hY hm (j := 9) (by decide) (.inr ⟨_, rfl⟩) rfl (enters_of Tryz.func113 (by kernel_rfl) rfl) (fun W hb => reverse_any (hY.below hb (Nat.le_refl _)) hm)
theorem m_turn {w : World} {Y : Ar} (hY : Y.Is w) (hm : amE Y.s Y.a = 0) : Calls Tryz.prog 23 #[.int .i64 33, Y.v] w (MadeE w (mdS Y.s.reverse) (pkA Y.s.reverse Y.a (tuF Y.s)) (mdE Y.s.reverse)) :=
  mmonad_at hY hm (j := 10) (by decide) (.inr ⟨_, rfl⟩) rfl (enters_of Tryz.func115 (by kernel_rfl) rfl) (fun W hb => turn_any (hY.below hb (Nat.le_refl _)) hm)
theorem m_left {w : World} {Y : Ar} (hY : Y.Is w) (hm : amE Y.s Y.a = 0) : Calls Tryz.prog 23 #[.int .i64 41, Y.v] w (MadeE w (mdS Y.s) (mdA Y.s Y.a) (mdE Y.s)) :=
  mmonad_at hY hm (j := 11) (by decide) (.inr ⟨_, rfl⟩) rfl (enters_of Tryz.func117 (by kernel_rfl) rfl) (fun W hb => same6_any (hY.below hb (Nat.le_refl _)))
theorem m_right {w : World} {Y : Ar} (hY : Y.Is w) (hm : amE Y.s Y.a = 0) : Calls Tryz.prog 23 #[.int .i64 42, Y.v] w (MadeE w (mdS Y.s) (mdA Y.s Y.a) (mdE Y.s)) :=
  mmonad_at hY hm (j := 12) (by decide) (.inr ⟨_, rfl⟩) rfl (enters_of Tryz.func117 (by kernel_rfl) rfl) (fun W hb => same6_any (hY.below hb (Nat.le_refl _)))
theorem d_behind {w : World} {X Y : Ar} (hX : X.Is w) (hY : Y.Is w) (hmx : amE X.s X.a = 0) (hmy : amE Y.s Y.a = 0)  : Calls Tryz.prog 29 #[.int .i64 24, X.v, Y.v] w (MadeE w (beS X.s Y.s) (beA X.s X.a Y.s Y.a) (beE X.s Y.s)) := by
  have hxn : X.an ≤ 4096 := by
    obtain ⟨h1, h2⟩ := amE_zero hmx
    have h3 := pr_nonneg h1
    have h4 := hX.ats.len
    omega
  exact mdyad_at hX hY hmx hmy (j := 2) (by decide) (.inr ⟨_, rfl⟩) rfl (fun h => absurd h (by decide)) (enters_of Tryz.func98 (by kernel_rfl) rfl) (fun W hb => by
    have hx := hX.below hb (Nat.le_refl _)
    have hy := hY.below hb (Nat.le_refl _)
    exact behind_any hx hy hmx hmy)
theorem d_take {w : World} {X Y : Ar} (hX : X.Is w) (hY : Y.Is w) (hmx : amE X.s X.a = 0) (hmy : amE Y.s Y.a = 0) (hsn : X.sn ≤ 1) : Calls Tryz.prog 29 #[.int .i64 28, X.v, Y.v] w (MadeE w (tkS X.a Y.s) (tkA X.a Y.s Y.a) (tkE X.a Y.s)) := by
  have hxn : X.an ≤ 4096 := by
    obtain ⟨h1, h2⟩ := amE_zero hmx
    have h3 := pr_nonneg h1
    have h4 := hX.ats.len
    omega
  exact mdyad_at hX hY hmx hmy (j := 5) (by decide) (.inr ⟨_, rfl⟩) rfl (fun _ => hsn) (enters_of Tryz.func107 (by kernel_rfl) rfl) (fun W hb => by
    have hx := hX.below hb (Nat.le_refl _)
    have hy := hY.below hb (Nat.le_refl _)
    exact take_any hx hy hxn hmy)
theorem d_drop {w : World} {X Y : Ar} (hX : X.Is w) (hY : Y.Is w) (hmx : amE X.s X.a = 0) (hmy : amE Y.s Y.a = 0) (hsn : X.sn ≤ 1) : Calls Tryz.prog 29 #[.int .i64 29, X.v, Y.v] w (MadeE w (drS X.a Y.s) (drA X.a Y.s Y.a) (drE X.a Y.s)) := by
  have hxn : X.an ≤ 4096 := by
    obtain ⟨h1, h2⟩ := amE_zero hmx
    have h3 := pr_nonneg h1
    have h4 := hX.ats.len
    omega
  exact mdyad_at hX hY hmx hmy (j := 7) (by decide) (.inr ⟨_, rfl⟩) rfl (fun _ => hsn) (enters_of Tryz.func111 (by kernel_rfl) rfl) (fun W hb => by
    have hx := hX.below hb (Nat.le_refl _)
    have hy := hY.below hb (Nat.le_refl _)
    exact drop_any hx hy hxn hmy)
theorem d_rotate {w : World} {X Y : Ar} (hX : X.Is w) (hY : Y.Is w) (hmx : amE X.s X.a = 0) (hmy : amE Y.s Y.a = 0) (hsn : X.sn ≤ 1) : Calls Tryz.prog 29 #[.int .i64 32, X.v, Y.v] w (MadeE w (roS X.a Y.s) (roA X.a Y.s Y.a) (roE X.a Y.s)) := by
  have hxn : X.an ≤ 4096 := by
    obtain ⟨h1, h2⟩ := amE_zero hmx
    have h3 := pr_nonneg h1
    have h4 := hX.ats.len
    omega
  exact mdyad_at hX hY hmx hmy (j := 9) (by decide) (.inr ⟨_, rfl⟩) rfl (fun _ => hsn) (enters_of Tryz.func114 (by kernel_rfl) rfl) (fun W hb => by
    have hx := hX.below hb (Nat.le_refl _)
    have hy := hY.below hb (Nat.le_refl _)
    exact rotate_any hx hy hmy)
theorem d_reshape {w : World} {X Y : Ar} (hX : X.Is w) (hY : Y.Is w) (hmx : amE X.s X.a = 0) (hmy : amE Y.s Y.a = 0) (hsn : X.sn ≤ 1) : Calls Tryz.prog 29 #[.int .i64 23, X.v, Y.v] w (MadeE w (rsS X.a Y.s Y.a) (rsA X.a Y.s Y.a) (rsE X.a Y.s Y.a)) := by
  have hxn : X.an ≤ 4096 := by
    obtain ⟨h1, h2⟩ := amE_zero hmx
    have h3 := pr_nonneg h1
    have h4 := hX.ats.len
    omega
  exact mdyad_at hX hY hmx hmy (j := 1) (by decide) (.inr ⟨_, rfl⟩) rfl (fun _ => hsn) (enters_of Tryz.func95 (by kernel_rfl) rfl) (fun W hb => by
    have hx := hX.below hb (Nat.le_refl _)
    have hy := hY.below hb (Nat.le_refl _)
    exact reshape_any hx hy hxn hmy)
theorem rng_of6 {l : List Int} (h : ∀ x ∈ l, -9223372036854775808 ≤ x ∧ x ≤ 9223372036854775807) (i : Nat) : -9223372036854775808 ≤ l.getD i 0 ∧ l.getD i 0 ≤ 9223372036854775807 := by
  by_cases hi : i < l.length
  · simp only [List.getD, List.getElem?_eq_getElem hi, Option.getD_some]; exact h _ (List.getElem_mem hi)
  · simp [List.getD, List.getElem?_eq_none (Nat.le_of_not_lt hi)]
set_option maxRecDepth 100000 in
set_option maxHeartbeats 800000 in
theorem table6_any (w : World) : Calls Tryz.prog 33 #[] w (MadeA w [2, 3] [1, 2, 3, 4, 5, 6]) := by
  have h1 := (((Sp.start Non w).alloc 38 2 1 #[.slice (some ⟨w.heap.size + 1, 0, none⟩) 2 2, .slice (some ⟨w.heap.size + 1 + 1, 0, none⟩) 6 6] rfl (by decide)).alloc 3 1 2 #[.int .i64 2, .int .i64 3] rfl (by decide)).alloc 2 1 6 #[.int .i64 1, .int .i64 2, .int .i64 3, .int .i64 4, .int .i64 5, .int .i64 6] rfl (by decide)
  have h2 := ((h1.toInts (i := 1) (zs := [2, 3]) rfl (by omega) (rng_of6 (by simp))).toInts (i := 2) (zs := [1, 2, 3, 4, 5, 6]) rfl (by omega) (rng_of6 (by simp))).arrOf (i := 1) (j := 2) rfl (by decide) rfl
  simp only [World.size_alloc] at h2
  have HF := Lib.hid (madeE_A (err := 0) (h2.madeE (i := 2) (B := ⟨_, _, _, _, _, _, _, _⟩) rfl 0))
  clear h1 h2
  go_enter Tryz.func33, Tryz.ntmps33
  go_wp2
  exact bodyPost_ret (v := .agg #[.slice (some ⟨w.heap.size + 1, 0, none⟩) 2 2, .slice (some ⟨w.heap.size + 1 + 1, 0, none⟩) 6 6]) (by simp [results, Tryz.results33, go_sem, *]) rfl HF.out
set_option maxRecDepth 100000 in
set_option maxHeartbeats 800000 in
theorem scalar6_any (n : Int) (w : World) (hn : -9223372036854775808 ≤ n ∧ n ≤ 9223372036854775807) : Calls Tryz.prog 28 #[.int .i64 n] w (MadeA w [] [n]) := by
  have h1 := ((Sp.start Non w).alloc 38 2 1 #[.slice none 0 0, .slice (some ⟨w.heap.size + 1, 0, none⟩) 1 1] rfl (by decide)).alloc 2 1 1 #[.int .i64 n] rfl (by decide)
  have h2 := ((h1.toInts (i := 1) (zs := [n]) rfl (by omega) (rng_one hn)).intsNew (E := 3) (zs := []) (World.ownsRow_nil _ _ _ _) (Below.refl _ _) (by omega) (fun i => by simp [List.getD])).arrOf (i := 2) (j := 1) rfl (by decide) rfl
  simp only [World.size_alloc] at h2
  have HF := Lib.hid (madeE_A (err := 0) (h2.madeE (i := 1) (B := ⟨_, _, _, _, _, _, _, _⟩) rfl 0))
  clear h1 h2
  go_enter Tryz.func28, Tryz.ntmps28
  go_wp2
  exact bodyPost_ret (v := .agg #[.slice none 0 0, .slice (some ⟨w.heap.size + 1, 0, none⟩) 1 1]) (by simp [results, Tryz.results28, go_sem, *]) rfl HF.out
set_option maxRecDepth 100000 in
set_option maxHeartbeats 800000 in
theorem list6_any {w : World} {ao : Option Addr} {n c : Nat} {zs : List Int} (h : Ls w ao n c zs) (hn : n ≤ 17000000000000) :
    Calls Tryz.prog 30 #[.slice ao n c] w (MadeA w [(n : Int)] zs) := by
  obtain ⟨i0, hi0, hza, hzb, hzc⟩ := info_parts (P := Tryz.prog) (e := 2) (z := .int .i64 0) (size := 1) (bytes := 8) (by kernel_rfl)
  obtain ⟨W, HW⟩ : ∃ z, Hid ((w.alloc (.cells #[.slice none 0 0, .slice none 0 0] 38)).alloc (.cells #[.int .i64 n] 3) = z) := ⟨_, rfl⟩
  have h0 := ((Sp.start Non w).alloc 38 2 1 #[.slice none 0 0, .slice none 0 0] rfl (by decide)).alloc 3 1 1 #[.int .i64 n] rfl (by decide)
  rw [HW.out] at h0
  obtain ⟨g, HG⟩ : ∃ z, Hid (w.heap.size = z) := ⟨_, rfl⟩
  have H1_ := h0
  try simp only [List.cons_append, List.nil_append, List.set_cons_zero, List.set_cons_succ, List.map_cons, List.map_nil, List.getD_cons_zero, List.getD_cons_succ, World.size_alloc] at H1_
  have H1 := Lib.hid H1_
  clear H1_
  rw [HG.out] at H1
  have H2 : Hid (Sp Non w W [Pt.row ⟨38, 2, some ⟨g, 0, none⟩, 1, 1, [.slice none 0 0, .slice none 0 0]⟩, Pt.ints 3 (some ⟨g + 1, 0, none⟩) 1 1 [(n : Int)], Pt.ints 2 none 0 0 []]) := by
    have q := (H1.out.toInts (i := 1) (zs := [(n : Int)]) rfl (by omega) (rng_one (by omega))).intsNew (E := 2) (zs := []) (World.ownsRow_nil _ _ _ _) (Below.refl _ _) (by omega) (fun i => by simp [List.getD])
    exact q
  have HL := Lib.hid (h.below H2.out.belowN (Nat.le_refl _))
  have hb : (0 + n) * 8 ≤ 140737488351232 := by omega
  have x0 := H2.out.cell (i := 0) rfl 0 _ rfl
  have x1 := H2.out.cell (i := 0) rfl 1 _ rfl
  have x2 := H2.out.frozen (i := 0) rfl 0
  have x3 := H2.out.frozen (i := 0) rfl 1
  clear h h0 H1
  go_enter Tryz.func30, Tryz.ntmps30
  go_wp2_with (at_builtin; rw [HW.out, HG.out]; refine Sp.wpList_loc H2.out rfl _ _ 28 (by rfl) 2 i0 Tryz.underlying28 hi0 hza hzb hzc (i := 2) rfl (by rfl) (by rfl) HL.out hb ?_)
  intro bo d w9 h9
  have h9 := h9
  have H9_ := h9
  try simp only [List.cons_append, List.nil_append, List.set_cons_zero, List.set_cons_succ, List.map_cons, List.map_nil, List.getD_cons_zero, List.getD_cons_succ, World.size_alloc] at H9_
  have H9 := Lib.hid H9_
  clear H9_
  have x0 := H9.out.cell (i := 0) rfl 0 _ rfl
  have x1 := H9.out.cell (i := 0) rfl 1 _ rfl
  have x2 := H9.out.frozen (i := 0) rfl 0
  have x3 := H9.out.frozen (i := 0) rfl 1
  have HF : Hid (∀ u v, MadeA w [(n : Int)] zs (.returned (.agg #[.slice (some ⟨g + 1, 0, none⟩) 1 1, .slice bo n d])) ((w9.setCell ⟨g, 0, none⟩ u).setCell ⟨g, 1, none⟩ v)) := fun u v => by
    have q := ((H9.out.put (i := 0) rfl 0 u).put (i := 0) rfl 1 v).arrOf (i := 1) (j := 2) rfl (by decide) rfl
    exact madeE_A (q.madeE (i := 2) (B := ⟨some ⟨g + 1, 0, none⟩, 1, 1, bo, n, d, [(n : Int)], zs⟩) rfl 0)
  go_wp2
  exact bodyPost_ret (v := .agg #[.slice (some ⟨g + 1, 0, none⟩) 1 1, .slice bo n d]) (by simp [results, Tryz.results30, go_sem, *]) rfl (HF.out _ _)
theorem ret_toB {w : World} {v : Value} {e : Ending} {w' : World} (h : Ret w v e w') : RetB w v e w' := by
  obtain ⟨h1, n, rfl⟩ := h
  exact ⟨h1, adrew w n⟩
theorem v6_a : mdS ([2, 3] : List Int).reverse = [3, 2] ∧ pkA ([2, 3] : List Int).reverse [1, 2, 3, 4, 5, 6] (tuF [2, 3]) = [1, 4, 2, 5, 3, 6] ∧ mdE ([2, 3] : List Int).reverse = 0 := by decide +kernel
theorem v6_b : beS [2, 3] [] = [3, 3] ∧ beA [2, 3] [1, 2, 3, 4, 5, 6] [] [9] = [1, 2, 3, 4, 5, 6, 9, 9, 9] ∧ beE [2, 3] [] = 0 := by decide +kernel
theorem v6_c : tkS [3, -2] [2, 3] = [3, 2] ∧ tkA [3, -2] [2, 3] [1, 2, 3, 4, 5, 6] = [2, 3, 5, 6, 0, 0] ∧ tkE [3, -2] [2, 3] = 0 := by decide +kernel
theorem v6_d : rsS [2] [] [7] = [2] ∧ rsA [2] [] [7] = [7, 7] ∧ rsE [2] [] [7] = 0 := by decide +kernel
theorem v6_e : mHas 28 2 = true ∧ mHas 30 2 = false := by decide +kernel
theorem v6_f : amE [2, 3] [1, 2, 3, 4, 5, 6] = 0 ∧ amE [] [9] = 0 ∧ amE [2] [3, -2] = 0 ∧ amE [] [2] = 0 ∧ amE [] [7] = 0 := by decide +kernel
set_option maxRecDepth 100000 in
set_option maxHeartbeats 6400000 in
theorem begun6_any (w : World) : Calls Tryz.prog 11 #[] w (RetB w (.bool true)) := by
  have CT := Lib.hid (fun w => table6_any w)
  have CS := Lib.hid (fun n w h => scalar6_any n w h)
  go_enter Tryz.func11, Tryz.ntmps11
  go_wp2_with fail
  refine (CT.out w).mono ?_; rintro e w1 ⟨T1, rfl, hI, hs, ha, hO, hb⟩
  have hc := m_turn hI (by rw [hs, ha]; exact v6_f.1)
  rw [hs, ha, v6_a.1, v6_a.2.1, v6_a.2.2] at hc
  have C1 := Lib.hid hc
  have H1 := Lib.hid ((Sp.start Non w).via hb)
  clear hI hs ha hO hb hc
  go_wp2_with fail
  refine C1.out.mono ?_; rintro e w2 ⟨⟨p1, p2, p3, p4, p5, p6, ps, pt⟩, rfl, hI, hs, ha, hO, hb⟩
  have H2_ := (H1.out.arrNew hI hO hb).alloc 38 2 1 #[.slice p1 p2 p3, .slice p4 p5 p6] rfl (by decide)
  try simp only [List.cons_append, List.nil_append, List.set_cons_zero, List.set_cons_succ, List.map_cons, List.map_nil, List.getD_cons_zero, List.getD_cons_succ, World.size_alloc] at H2_
  have H2 := Lib.hid H2_
  clear H2_
  have HVA := Lib.hid (And.intro hs ha)
  simp only at HVA
  simp only [Ar.v]
  obtain ⟨W2, HW2⟩ : ∃ z, Hid (w2.alloc (.cells #[.slice p1 p2 p3, .slice p4 p5 p6] 38) = z) := ⟨_, rfl⟩
  rw [HW2.out] at H2
  clear hI hs ha hO hb C1 H1
  go_wp2_with fail
  rw [HW2.out]
  refine (CT.out W2).mono ?_; rintro e w3 ⟨T2, rfl, hI, hs, ha, hO, hb⟩
  have H3_ := H2.out.arrNew hI hO hb
  try simp only [List.cons_append, List.nil_append, List.set_cons_zero, List.set_cons_succ, List.map_cons, List.map_nil, List.getD_cons_zero, List.getD_cons_succ, World.size_alloc] at H3_
  have H3 := Lib.hid H3_
  clear H3_
  have HT2 := Lib.hid (And.intro hs ha)
  clear hI hs ha hO hb H2 HW2
  go_wp2_with fail
  refine (CS.out 9 w3 (by omega)).mono ?_; rintro e w4 ⟨S2, rfl, hI, hs, ha, hO, hb⟩
  have H4_ := H3.out.arrNew hI hO hb
  try simp only [List.cons_append, List.nil_append, List.set_cons_zero, List.set_cons_succ, List.map_cons, List.map_nil, List.getD_cons_zero, List.getD_cons_succ, World.size_alloc] at H4_
  have H4 := Lib.hid H4_
  clear H4_
  have hc := d_behind (H4.out.isA (i := 2) rfl) (H4.out.isA (i := 3) rfl) (by rw [HT2.out.1, HT2.out.2]; exact v6_f.1) (by rw [hs, ha]; exact v6_f.2.1)
  rw [HT2.out.1, HT2.out.2, hs, ha, v6_b.1, v6_b.2.1, v6_b.2.2] at hc
  have C1 := Lib.hid hc
  clear hI hs ha hO hb hc H3 HT2
  go_wp2_with fail
  refine C1.out.mono ?_; rintro e w5 ⟨⟨b1, b2, b3, b4, b5, b6, bs, bt⟩, rfl, hI, hs, ha, hO, hb⟩
  have H5_ := ((H4.out.arrNew hI hO hb).alloc 38 2 1 #[.slice b1 b2 b3, .slice b4 b5 b6] rfl (by decide)).pick [0, 1, 4, 5] (by decide)
  try simp only [List.cons_append, List.nil_append, List.set_cons_zero, List.set_cons_succ, List.map_cons, List.map_nil, List.getD_cons_zero, List.getD_cons_succ, World.size_alloc] at H5_
  have H5 := Lib.hid H5_
  clear H5_
  have HVB := Lib.hid (And.intro hs ha)
  simp only at HVB
  simp only [Ar.v]
  clear hI hs ha hO hb C1 H4
  have hl := (H5.out.alloc 2 1 2 #[.int .i64 3, .int .i64 (-2)] rfl (by decide)).toInts (i := 4) (zs := [3, -2]) rfl (by omega) (rng_of6 (by simp))
  have H5L_ := hl
  try simp only [List.cons_append, List.nil_append, List.set_cons_zero, List.set_cons_succ, List.map_cons, List.map_nil, List.getD_cons_zero, List.getD_cons_succ, World.size_alloc] at H5L_
  have H5L := Lib.hid H5L_
  clear H5L_
  have CL := Lib.hid (list6_any (H5L.out.ls (i := 4) rfl) (by omega))
  clear hl
  go_wp2_with fail
  refine CL.out.mono ?_; rintro e w6 ⟨L1, rfl, hI, hs, ha, hO, hb⟩
  have H6_ := H5L.out.arrNew hI hO hb
  try simp only [List.cons_append, List.nil_append, List.set_cons_zero, List.set_cons_succ, List.map_cons, List.map_nil, List.getD_cons_zero, List.getD_cons_succ, World.size_alloc] at H6_
  have H6 := Lib.hid H6_
  clear H6_
  have HL1 := Lib.hid (And.intro hs ha)
  clear hI hs ha hO hb H5 H5L CL
  go_wp2_with fail
  refine (CT.out w6).mono ?_; rintro e w7 ⟨T3, rfl, hI, hs, ha, hO, hb⟩
  have H7_ := H6.out.arrNew hI hO hb
  try simp only [List.cons_append, List.nil_append, List.set_cons_zero, List.set_cons_succ, List.map_cons, List.map_nil, List.getD_cons_zero, List.getD_cons_succ, World.size_alloc] at H7_
  have H7 := Lib.hid H7_
  clear H7_
  have hls := (H7.out.isA (i := 5) rfl).shp.len
  have hc := d_take (H7.out.isA (i := 5) rfl) (H7.out.isA (i := 6) rfl) (by rw [HL1.out.1, HL1.out.2]; exact v6_f.2.2.1) (by rw [hs, ha]; exact v6_f.1) (by rw [HL1.out.1] at hls; simp at hls; omega)
  rw [HL1.out.2, hs, ha, v6_c.1, v6_c.2.1, v6_c.2.2] at hc
  have C1 := Lib.hid hc
  clear hI hs ha hO hb hc H6 HL1 hls
  go_wp2_with fail
  refine C1.out.mono ?_; rintro e w8 ⟨⟨c1, c2, c3, c4, c5, c6, cs, ct⟩, rfl, hI, hs, ha, hO, hb⟩
  have H8_ := ((H7.out.arrNew hI hO hb).alloc 38 2 1 #[.slice c1 c2 c3, .slice c4 c5 c6] rfl (by decide)).pick [0, 1, 2, 3, 7, 8] (by decide)
  try simp only [List.cons_append, List.nil_append, List.set_cons_zero, List.set_cons_succ, List.map_cons, List.map_nil, List.getD_cons_zero, List.getD_cons_succ, World.size_alloc] at H8_
  have H8 := Lib.hid H8_
  clear H8_
  have HVC := Lib.hid (And.intro hs ha)
  simp only at HVC
  simp only [Ar.v]
  obtain ⟨W8, HW8⟩ : ∃ z, Hid (w8.alloc (.cells #[.slice c1 c2 c3, .slice c4 c5 c6] 38) = z) := ⟨_, rfl⟩
  rw [HW8.out] at H8
  clear hI hs ha hO hb C1 H7
  go_wp2_with fail
  rw [HW8.out]
  refine (CS.out 2 W8 (by omega)).mono ?_; rintro e w9 ⟨S3, rfl, hI, hs, ha, hO, hb⟩
  have H9_ := H8.out.arrNew hI hO hb
  try simp only [List.cons_append, List.nil_append, List.set_cons_zero, List.set_cons_succ, List.map_cons, List.map_nil, List.getD_cons_zero, List.getD_cons_succ, World.size_alloc] at H9_
  have H9 := Lib.hid H9_
  clear H9_
  have HS3 := Lib.hid (And.intro hs ha)
  clear hI hs ha hO hb H8 HW8
  go_wp2_with fail
  refine (CS.out 7 w9 (by omega)).mono ?_; rintro e w10 ⟨S4, rfl, hI, hs, ha, hO, hb⟩
  have H10_ := H9.out.arrNew hI hO hb
  try simp only [List.cons_append, List.nil_append, List.set_cons_zero, List.set_cons_succ, List.map_cons, List.map_nil, List.getD_cons_zero, List.getD_cons_succ, World.size_alloc] at H10_
  have H10 := Lib.hid H10_
  clear H10_
  have hls := (H10.out.isA (i := 6) rfl).shp.len
  have hc := d_reshape (H10.out.isA (i := 6) rfl) (H10.out.isA (i := 7) rfl) (by rw [HS3.out.1, HS3.out.2]; exact v6_f.2.2.2.1) (by rw [hs, ha]; exact v6_f.2.2.2.2) (by rw [HS3.out.1] at hls; simp at hls; omega)
  rw [HS3.out.2, hs, ha, v6_d.1, v6_d.2.1, v6_d.2.2] at hc
  have C1 := Lib.hid hc
  clear hI hs ha hO hb hc H9 HS3 hls
  go_wp2_with fail
  refine C1.out.mono ?_; rintro e w11 ⟨⟨d1, d2, d3, d4, d5, d6, ds, dt⟩, rfl, hI, hs, ha, hO, hb⟩
  have H11_ := ((H10.out.arrNew hI hO hb).alloc 38 2 1 #[.slice d1 d2 d3, .slice d4 d5 d6] rfl (by decide)).pick [0, 1, 2, 3, 4, 5, 8, 9] (by decide)
  try simp only [List.cons_append, List.nil_append, List.set_cons_zero, List.set_cons_succ, List.map_cons, List.map_nil, List.getD_cons_zero, List.getD_cons_succ, World.size_alloc] at H11_
  have H11 := Lib.hid H11_
  clear H11_
  have HVD := Lib.hid (And.intro hs ha)
  simp only at HVD
  simp only [Ar.v]
  obtain ⟨W11, HW11⟩ : ∃ z, Hid (w11.alloc (.cells #[.slice d1 d2 d3, .slice d4 d5 d6] 38) = z) := ⟨_, rfl⟩
  rw [HW11.out] at H11
  clear hI hs ha hO hb C1 H10
  go_wp2_with fail
  rw [HW11.out]
  refine (CT.out W11).mono ?_; rintro e w12 ⟨T4, rfl, hI, hs, ha, hO, hb⟩
  have H12_ := H11.out.arrNew hI hO hb
  try simp only [List.cons_append, List.nil_append, List.set_cons_zero, List.set_cons_succ, List.map_cons, List.map_nil, List.getD_cons_zero, List.getD_cons_succ, World.size_alloc] at H12_
  have H12 := Lib.hid H12_
  clear H12_
  have HT4 := Lib.hid (And.intro hs ha)
  clear hI hs ha hO hb H11 HW11
  go_wp2_with fail
  refine (CT.out w12).mono ?_; rintro e w13 ⟨T5, rfl, hI, hs, ha, hO, hb⟩
  have H13_ := H12.out.arrNew hI hO hb
  try simp only [List.cons_append, List.nil_append, List.set_cons_zero, List.set_cons_succ, List.map_cons, List.map_nil, List.getD_cons_zero, List.getD_cons_succ, World.size_alloc] at H13_
  have H13 := Lib.hid H13_
  clear H13_
  have hc := mdyad_nil (op := 30) (H13.out.isA (i := 8) rfl) (H13.out.isA (i := 9) rfl) (by rw [HT4.out.1, HT4.out.2]; exact v6_f.1) (by rw [hs, ha]; exact v6_f.1) (j := 6) (by decide) (.inr ⟨_, rfl⟩) rfl
  have C1 := Lib.hid hc
  clear hI hs ha hO hb hc H12 HT4
  go_wp2_with fail
  refine C1.out.mono ?_; rintro e w14 ⟨⟨z1, z2, z3, z4, z5, z6, zs, zt⟩, rfl, hI, hs, ha, hO, hb⟩
  have H14_ := ((H13.out.arrNew hI hO hb).alloc 38 2 1 #[.slice z1 z2 z3, .slice z4 z5 z6] rfl (by decide)).pick [0, 1, 2, 3, 4, 5, 6, 7] (by decide)
  try simp only [List.cons_append, List.nil_append, List.set_cons_zero, List.set_cons_succ, List.map_cons, List.map_nil, List.getD_cons_zero, List.getD_cons_succ, World.size_alloc] at H14_
  have H14 := Lib.hid H14_
  clear H14_
  simp only [Ar.v]
  obtain ⟨W14, HW14⟩ : ∃ z, Hid (w14.alloc (.cells #[.slice z1 z2 z3, .slice z4 z5 z6] 38) = z) := ⟨_, rfl⟩
  rw [HW14.out] at H14
  clear hI hs ha hO hb C1 H13
  have CH := Lib.hid (mhas_any 28 2 W14)
  rw [v6_e.1] at CH
  go_wp2_with fail
  rw [HW14.out]
  refine CH.out.mono ?_; rintro e w15 ⟨rfl, hb⟩
  have H15_ := H14.out.via hb
  try simp only [List.cons_append, List.nil_append, List.set_cons_zero, List.set_cons_succ, List.map_cons, List.map_nil, List.getD_cons_zero, List.getD_cons_succ, World.size_alloc] at H15_
  have H15 := Lib.hid H15_
  clear H15_
  have CH2 := Lib.hid (mhas_any 30 2 w15)
  rw [v6_e.2] at CH2
  clear hb H14 HW14 CH
  go_wp2_with fail
  refine CH2.out.mono ?_; rintro e w16 ⟨rfl, hb⟩
  have H16_ := H15.out.via hb
  try simp only [List.cons_append, List.nil_append, List.set_cons_zero, List.set_cons_succ, List.map_cons, List.map_nil, List.getD_cons_zero, List.getD_cons_succ, World.size_alloc] at H16_
  have H16 := Lib.hid H16_
  clear H16_
  clear hb H15 CH2
  go_upto_region 7 with fail
  have HLT : Hid (∀ n : Nat, w16.heap.size ≤ n → w2.heap.size < n ∧ (¬ w2.heap.size = n) ∧ (¬ n = w2.heap.size) ∧ w5.heap.size < n ∧ (¬ w5.heap.size = n) ∧ (¬ n = w5.heap.size) ∧ w8.heap.size < n ∧ (¬ w8.heap.size = n) ∧ (¬ n = w8.heap.size) ∧ w11.heap.size < n ∧ (¬ w11.heap.size = n) ∧ (¬ n = w11.heap.size)) := fun n hn => by
    have q0 := (H16.out.rlt (i := 1) rfl).1
    have q1 := (H16.out.rlt (i := 3) rfl).1
    have q2 := (H16.out.rlt (i := 5) rfl).1
    have q3 := (H16.out.rlt (i := 7) rfl).1
    omega
  obtain ⟨m00, m01, m02, m03, m04, m05, m06, m07, m08, m09, m010, m011⟩ := HLT.out _ (Nat.le_refl _)
  have HA1_ := ((H16.out.alloc 2 1 6 #[.int .i64 1, .int .i64 4, .int .i64 2, .int .i64 5, .int .i64 3, .int .i64 6] rfl (by decide)).via (adrew1 _)).toInts (i := 8) (zs := [1, 4, 2, 5, 3, 6]) rfl (by omega) (rng_of6 (by simp))
  try simp only [List.cons_append, List.nil_append, List.set_cons_zero, List.set_cons_succ, List.map_cons, List.map_nil, List.getD_cons_zero, List.getD_cons_succ, World.size_alloc] at HA1_
  have HA1 := Lib.hid HA1_
  clear HA1_
  have E1 := Lib.hid (Calls.mono (eqatoms4_any (HA1.out.isA (i := 0) rfl).ats (HA1.out.ls (i := 8) rfl)) fun _ _ h => ret_toB h)
  simp only at E1
  rw [decide_eq_true HVA.out.2] at E1
  have y0 := H16.out.cell (i := 1) rfl 1 _ rfl
  have y1 := H16.out.cell (i := 3) rfl 1 _ rfl
  have y2 := H16.out.cell (i := 5) rfl 1 _ rfl
  have y3 := H16.out.cell (i := 7) rfl 0 _ rfl
  have y4 := H16.out.cell (i := 7) rfl 1 _ rfl
  have HSZ0 : Hid (w16.heap.size ≤ ((w16.alloc (.cells #[.int .i64 1, .int .i64 4, .int .i64 2, .int .i64 5, .int .i64 3, .int .i64 6] 2)).drew).heap.size) := ((abal w16 (.cells #[.int .i64 1, .int .i64 4, .int .i64 2, .int .i64 5, .int .i64 3, .int .i64 6] 2)).trans ((adrew1 _).mono (by simp))).size
  go_region_held3 (fun v => v.cell? ⟨w2.heap.size, 1, none⟩ = some (.slice p4 p5 p6) ∧ v.cell? ⟨w5.heap.size, 1, none⟩ = some (.slice b4 b5 b6) ∧ v.cell? ⟨w8.heap.size, 1, none⟩ = some (.slice c4 c5 c6) ∧ v.cell? ⟨w11.heap.size, 0, none⟩ = some (.slice d1 d2 d3) ∧ v.cell? ⟨w11.heap.size, 1, none⟩ = some (.slice d4 d5 d6)) (go_keep)
    (first
    | (go_at_call 26; (with_reducible refine Calls.mono E1.out ?_); rintro e x1 ⟨rfl, hb⟩; have HB1 := Lib.hid ((HA1.out.via hb).pick [0, 1, 2, 3, 4, 5, 6, 7] (by decide)); have hsz : w16.heap.size ≤ x1.heap.size := Nat.le_trans HSZ0.out hb.size; have HSZ1 := Lib.hid hsz; obtain ⟨m10, m11, m12, m13, m14, m15, m16, m17, m18, m19, m110, m111⟩ := HLT.out _ hsz; have ha := ((HB1.out.alloc 2 1 9 #[.int .i64 1, .int .i64 2, .int .i64 3, .int .i64 4, .int .i64 5, .int .i64 6, .int .i64 9, .int .i64 9, .int .i64 9] rfl (by decide))).toInts (i := 8) (zs := [1, 2, 3, 4, 5, 6, 9, 9, 9]) rfl (by omega) (rng_of6 (by simp)); have HA2 := Lib.hid ha; have e2 := Calls.mono (eqatoms4_any (HA2.out.isA (i := 2) rfl).ats (HA2.out.ls (i := 8) rfl)) (fun _ _ h => ret_toB h); simp only at e2; rw [decide_eq_true HVB.out.2] at e2; have E2 := Lib.hid e2; clear ha e2 hb hsz E1 y0 y1 y2 y3 y4; have y0 := HB1.out.cell (i := 1) rfl 1 _ rfl; have y1 := HB1.out.cell (i := 3) rfl 1 _ rfl; have y2 := HB1.out.cell (i := 5) rfl 1 _ rfl; have y3 := HB1.out.cell (i := 7) rfl 0 _ rfl; have y4 := HB1.out.cell (i := 7) rfl 1 _ rfl)
    | (go_at_call 26; (with_reducible refine Calls.mono E2.out ?_); rintro e x2 ⟨rfl, hb⟩; have HB2 := Lib.hid ((HA2.out.via hb).pick [0, 1, 2, 3, 4, 5, 6, 7] (by decide)); have hsz : w16.heap.size ≤ x2.heap.size := Nat.le_trans (Nat.le_trans HSZ1.out (abal _ _).size) hb.size; have HSZ2 := Lib.hid hsz; obtain ⟨m20, m21, m22, m23, m24, m25, m26, m27, m28, m29, m210, m211⟩ := HLT.out _ hsz; have ha := ((HB2.out.alloc 2 1 6 #[.int .i64 2, .int .i64 3, .int .i64 5, .int .i64 6, .int .i64 0, .int .i64 0] rfl (by decide))).toInts (i := 8) (zs := [2, 3, 5, 6, 0, 0]) rfl (by omega) (rng_of6 (by simp)); have HA3 := Lib.hid ha; have e2 := Calls.mono (eqatoms4_any (HA3.out.isA (i := 4) rfl).ats (HA3.out.ls (i := 8) rfl)) (fun _ _ h => ret_toB h); simp only at e2; rw [decide_eq_true HVC.out.2] at e2; have E3 := Lib.hid e2; clear ha e2 hb hsz E2 y0 y1 y2 y3 y4; have y0 := HB2.out.cell (i := 1) rfl 1 _ rfl; have y1 := HB2.out.cell (i := 3) rfl 1 _ rfl; have y2 := HB2.out.cell (i := 5) rfl 1 _ rfl; have y3 := HB2.out.cell (i := 7) rfl 0 _ rfl; have y4 := HB2.out.cell (i := 7) rfl 1 _ rfl)
    | (go_at_call 26; (with_reducible refine Calls.mono E3.out ?_); rintro e x3 ⟨rfl, hb⟩; have HB3 := Lib.hid ((HA3.out.via hb).pick [0, 1, 2, 3, 4, 5, 6, 7] (by decide)); have hsz : w16.heap.size ≤ x3.heap.size := Nat.le_trans (Nat.le_trans HSZ2.out (abal _ _).size) hb.size; have HSZ3 := Lib.hid hsz; obtain ⟨m30, m31, m32, m33, m34, m35, m36, m37, m38, m39, m310, m311⟩ := HLT.out _ hsz; have ha := ((HB3.out.alloc 2 1 2 #[.int .i64 7, .int .i64 7] rfl (by decide))).toInts (i := 8) (zs := [7, 7]) rfl (by omega) (rng_of6 (by simp)); have HA4 := Lib.hid ha; have E4 := Lib.hid (list6_any (HA4.out.ls (i := 8) rfl) (by omega)); clear ha hb hsz E3 y0 y1 y2 y3 y4; have y0 := HB3.out.cell (i := 1) rfl 1 _ rfl; have y1 := HB3.out.cell (i := 3) rfl 1 _ rfl; have y2 := HB3.out.cell (i := 5) rfl 1 _ rfl; have y3 := HB3.out.cell (i := 7) rfl 0 _ rfl; have y4 := HB3.out.cell (i := 7) rfl 1 _ rfl)
    | (go_at_call 30; (with_reducible refine Calls.mono E4.out ?_); rintro e x4 ⟨L9, rfl, hI, hs, ha, hO, hb⟩; have hsz : w16.heap.size ≤ x4.heap.size := Nat.le_trans (Nat.le_trans HSZ3.out (abal _ _).size) hb.size; obtain ⟨m40, m41, m42, m43, m44, m45, m46, m47, m48, m49, m410, m411⟩ := HLT.out _ hsz; have HB4 := Lib.hid (HA4.out.arrNew hI hO hb); have e5 := eq4_any (HB4.out.isA (i := 6) rfl) (HB4.out.isA (i := 9) rfl); rw [decide_eq_true (by simp only; rw [hs, ha]; exact HVD.out)] at e5; simp only [Ar.v] at e5 ⊢; have E5 := Lib.hid e5; clear e5 hI hs ha hO hb E4 y0 y1 y2 y3 y4; have y0 := HB4.out.cell (i := 1) rfl 1 _ rfl; have y1 := HB4.out.cell (i := 3) rfl 1 _ rfl; have y2 := HB4.out.cell (i := 5) rfl 1 _ rfl; have y3 := HB4.out.cell (i := 7) rfl 0 _ rfl; have y4 := HB4.out.cell (i := 7) rfl 1 _ rfl)
    | (go_at_call 17; (with_reducible refine Calls.mono E5.out ?_); rintro e x5 ⟨rfl, hb⟩; have HB5 := Lib.hid (HB4.out.via hb); clear hb E5 y0 y1 y2 y3 y4; have y0 := HB5.out.cell (i := 1) rfl 1 _ rfl; have y1 := HB5.out.cell (i := 3) rfl 1 _ rfl; have y2 := HB5.out.cell (i := 5) rfl 1 _ rfl; have y3 := HB5.out.cell (i := 7) rfl 0 _ rfl; have y4 := HB5.out.cell (i := 7) rfl 1 _ rfl))
  all_goals
    have HF := Lib.hid HB5.out.belowN
    clear HB5
    go_wp2
    go_ret
    exact RetB.mk rfl HF.out
end Go.Proofs.YthackmkdicpdeaaGreat

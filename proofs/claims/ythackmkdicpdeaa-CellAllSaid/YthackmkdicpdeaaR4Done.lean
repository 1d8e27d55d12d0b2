/- Contract of the document's Joiner.Done (printed by gen_r4done.py). -/
import Derived.Test.YthackmkdicpdeaaR4Begin
import Derived.Test.YthackmkdicpdeaaR4Atom
import Derived.Test.YthackmkdicpdeaaCellDone
import Derived.Test.YthackmkdicpdeaaShapeRef3
import Derived.Test.YthackmkdicpdeaaRegHd
namespace Go.Proofs.Ythackmkdicpdeaa
open Go.RowKit Go.Lib
set_option linter.unusedVariables false
set_option linter.unusedSimpArgs false
attribute [local go_sem] alloc_drewN setCell_drewN
theorem ls_oneC (w : World) (T : TypeId) (z : Int) (hz : -9223372036854775808 ≤ z ∧ z ≤ 9223372036854775807) : Ls (w.alloc (.cells #[.int .i64 z] T)) (some ⟨w.heap.size, 0, none⟩) 1 1 [z] :=
  ⟨rfl, Nat.le_refl _, by omega, by decide, fun _ => ⟨w.heap.size, 0, rfl, by simp, fun i hi => by
    obtain rfl : i = 0 := by omega
    simp [go_sem]⟩, fun i => by
    match i with
    | 0 => simpa using hz
    | i + 1 => simp [List.getD]⟩
/-- What is laid before round k of round i. -/
def dnX (c : List Int) (G : List (List Int × List Int)) (i k : Nat) : List Int := ((G.take i).map fun x => layL c x.1 x.2).flatten ++ ((G[i]?.map fun x => layL c x.1 x.2).getD []).take k
theorem dnX_zero (c : List Int) (G : List (List Int × List Int)) (i : Nat) : dnX c G i 0 = ((G.take i).map fun x => layL c x.1 x.2).flatten := by simp [dnX]
theorem dnX_end (c : List Int) (G : List (List Int × List Int)) : dnX c G G.length 0 = (G.map fun x => layL c x.1 x.2).flatten := by simp [dnX]
theorem dnX_step {c s a : List Int} {G : List (List Int × List Int)} {i k M : Nat} (hM : M = (pr c).toNat) (hx : G[i]? = some (s, a)) (hk : k < M) : dnX c G i k ++ [(layL c s a).getD k 0] = dnX c G i (k + 1) := by
  have hl := layL_len c s a
  unfold dnX
  rw [hx, List.append_assoc]
  congr 1
  simp only [Option.map_some, Option.getD_some]
  rw [List.take_add_one, List.getElem?_eq_getElem (by omega)]
  simp [List.getD, List.getElem?_eq_getElem (show k < (layL c s a).length by omega)]
theorem dnX_next {c s a : List Int} {G : List (List Int × List Int)} {i M : Nat} (hM : M = (pr c).toNat) (hx : G[i]? = some (s, a)) : dnX c G i M = dnX c G (i + 1) 0 := by
  have hl := layL_len c s a
  rw [dnX_zero, List.take_add_one, hx]
  unfold dnX
  rw [hx]
  simp only [Option.map_some, Option.getD_some, Option.toList_some, List.map_append, List.flatten_append, List.map_cons, List.map_nil, List.flatten_cons, List.flatten_nil, List.append_nil]
  rw [List.take_of_length_le (l := layL c s a) (by omega)]
theorem dnX_len {c s a : List Int} {G : List (List Int × List Int)} {i k M : Nat} (hM : M = (pr c).toNat) (hi : i ≤ G.length) (hk : k ≤ M) : (dnX c G i k).length ≤ i * M + k := by
  unfold dnX
  rw [List.length_append, lay_lens, List.length_take, ← hM, Nat.min_eq_left hi]
  have := List.length_take_le k ((G[i]?.map fun x => layL c x.1 x.2).getD [])
  omega
theorem atmV_rng {s a : List Int} (h : ∀ i, -9223372036854775808 ≤ a.getD i 0 ∧ a.getD i 0 ≤ 9223372036854775807) (t : List Int) : -9223372036854775808 ≤ atmV s a t ∧ atmV s a t ≤ 9223372036854775807 := by
  unfold atmV
  split
  · split
    · exact h _
    · omega
  · omega
theorem Sp.all_arr {F0 : Nat → Prop} {w0 w : World} {L : List Pt} {i : Nat} (H : Sp F0 w0 w L) {As : List Ar} (hr : L[i]? = some (Pt.all (As.map Pt.arr))) {k : Nat} {B : Ar} (hk : As[k]? = some B) : B.Is w := by
  obtain ⟨F', hF, -⟩ := H.get hr
  obtain ⟨Fs, q1, -⟩ := hF
  have hqa := q1 k (Pt.arr B) (by rw [List.getElem?_map, hk]; rfl)
  exact (Pt.arr_own hqa).1
def RDoneP (F : Nat → Prop) (w : World) (g : Nat) (fr c : List Int) (G : List (List Int × List Int)) (s a : List Int) (err : Int) (e : Ending) (w' : World) : Prop :=
  ∃ B : Ar, e = .returned (.tuple #[B.v, .int .i64 err]) ∧ B.s = s ∧ B.a = a ∧ Sp F w w' [Pt.rjoiner g fr c G, Pt.arr B]
/-- The loops' rounds. -/
def RDoneI (F : Nat → Prop) (w wr : World) (g : Nat) (fo : Option Addr) (fn fc : Nat) (fr : List Int) (co : Option Addr) (cn cc : Nat) (c : List Int) (gob N gc : Nat) (As : List Ar) (ob : Nat) (so : Option Addr) (sn sc : Nat) (os acc : List Int) : Prop :=
  ∃ ao n ac, Sp F w wr [Pt.row ⟨134, 3, some ⟨g, 0, none⟩, 1, 1, [.slice fo fn fc, .slice (some ⟨gob, 0, none⟩) N gc, .slice co cn cc]⟩, Pt.ints 3 fo fn fc fr, Pt.ints 3 co cn cc c, Pt.row ⟨45, 2, (some ⟨gob, 0, none⟩), N, gc, cellsA As⟩, Pt.all (As.map Pt.arr), Pt.row ⟨45, 2, some ⟨w.heap.size, 0, none⟩, 1, 1, [.slice none 0 0, .slice none 0 0]⟩, Pt.row ⟨45, 2, some ⟨ob, 0, none⟩, 1, 1, [.slice so sn sc, .slice ao n ac]⟩, Pt.ints 3 so sn sc os, Pt.ints 2 ao n ac acc]
set_option maxRecDepth 100000 in
set_option maxHeartbeats 6400000 in
theorem rdone_any {w : World} {F : Nat → Prop} {g : Nat} {fr c : List Int} {G : List (List Int × List Int)} (hJ : (Pt.rjoiner g fr c G).P w F) :
    Calls Try.prog 38 #[.pointer (some ⟨g, 0, none⟩)] w (RDoneP F w g fr c G (dnS fr c G) (dnA fr c G) (dnE fr G)) := by
  obtain ⟨⟨fo, fn, fc, co, cn, cc, go, gc, As⟩, ⟨hfr, hp, hjok, hG⟩, hall⟩ := hJ
  have h0 := Sp.of_all (Out.refl F w) hall (fun k h => .inl h)
  simp only [rjnL] at h0 hG
  obtain ⟨N, HN⟩ : ∃ z, Hid (G.length = z) := ⟨_, rfl⟩
  rw [HN.out] at h0
  have hpb := pr_nonneg hfr
  obtain ⟨P, hP⟩ : ∃ P : Nat, pr fr = P := ⟨(pr fr).toNat, by omega⟩
  have HPP := Lib.hid hP
  have hPb : P ≤ 4096 := by omega
  have hle : N ≤ P := by have := hjok.le; rw [HN.out] at this; omega
  have HJK := Lib.hid (And.intro hfr (And.intro hp (And.intro hjok hG)))
  obtain ⟨W, HW⟩ : ∃ z, Hid (w.alloc (.cells #[.slice none 0 0, .slice none 0 0] 45) = z) := ⟨_, rfl⟩
  have h1 := h0.alloc 45 2 1 #[.slice none 0 0, .slice none 0 0] rfl (by decide)
  rw [HW.out] at h1
  have H1_ := h1
  try simp only [List.cons_append, List.nil_append, List.set_cons_zero, List.set_cons_succ, List.map_cons, List.map_nil, List.getD_cons_zero, List.getD_cons_succ, World.size_alloc] at H1_
  have H1 := Lib.hid H1_
  clear H1_
  have HEND : Hid (∀ (w' : World) (B : Ar) (e : Int), Sp F w w' [Pt.row ⟨134, 3, some ⟨g, 0, none⟩, 1, 1, [.slice fo fn fc, .slice go N gc, .slice co cn cc]⟩, Pt.ints 3 fo fn fc fr, Pt.ints 3 co cn cc c, Pt.row ⟨45, 2, go, N, gc, cellsA As⟩, Pt.all (As.map Pt.arr), Pt.arr B] → RDoneP F w g fr c G B.s B.a e (.returned (.tuple #[B.v, .int .i64 e])) w') := fun w' B e H =>
    ⟨B, rfl, rfl, rfl, (H.group 5).sub (i := 0) rfl (Pt.rjoiner g fr c G) fun F' hF => ⟨⟨fo, fn, fc, co, cn, cc, go, gc, As⟩, ⟨HJK.out.1, HJK.out.2.1, HJK.out.2.2.1, HJK.out.2.2.2⟩, by simp only [rjnL]; rw [HN.out]; exact hF⟩⟩
  have eE : dnE fr G = if (G.length : Int) < pr fr then 11 else 0 := rfl
  have eS : dnS fr c G = if (G.length : Int) < pr fr then [] else fr ++ c := rfl
  have eA : dnA fr c G = if (G.length : Int) < pr fr then [] else (G.map fun x => layL c x.1 x.2).flatten := rfl
  rw [HN.out, hP] at eE eS eA
  obtain ⟨RE, HRE⟩ : ∃ z, Hid (dnE fr G = z) := ⟨_, rfl⟩
  obtain ⟨RS, HRS⟩ : ∃ z, Hid (dnS fr c G = z) := ⟨_, rfl⟩
  obtain ⟨RA, HRA⟩ : ∃ z, Hid (dnA fr c G = z) := ⟨_, rfl⟩
  rw [HRE.out, HRS.out, HRA.out]
  rw [HRE.out] at eE
  rw [HRS.out] at eS
  rw [HRA.out] at eA
  have CF := Lib.hid (rcount_any (H1.out.ls (i := 1) rfl) HJK.out.1)
  rw [HPP.out] at CF
  have y0 := H1.out.cell (i := 0) rfl 0 _ rfl
  have y1 := H1.out.cell (i := 0) rfl 1 _ rfl
  have y2 := H1.out.cell (i := 0) rfl 2 _ rfl
  have x0 := H1.out.cell (i := 5) rfl 0 _ rfl
  have x1 := H1.out.cell (i := 5) rfl 1 _ rfl
  have f0 := H1.out.frozen (i := 5) rfl 0
  have f1 := H1.out.frozen (i := 5) rfl 1
  clear h0 h1 hfr hp hjok hG hpb hP hall
  by_cases hlt : N < P
  · have hlt' : (N : Int) < P := by omega
    rw [if_pos hlt'] at eE eS eA
    subst eE eS eA
    have HF : Hid (∀ u v, RDoneP F w g fr c G [] [] 11 (.returned (.tuple #[.agg #[.slice none 0 0, .slice none 0 0], .int .i64 11])) ((W.setCell ⟨w.heap.size, 0, none⟩ u).setCell ⟨w.heap.size, 1, none⟩ v)) := fun u v => by
      have h := ((((H1.out.put (i := 5) rfl 0 u).put (i := 5) rfl 1 v)).arrNew (Ar.is_nil _) (Ar.own_nil _ _) (Below.refl _ _)).pick [0, 1, 2, 3, 4, 6] (by decide)
      exact HEND.out _ ⟨none, 0, 0, none, 0, 0, [], []⟩ 11 h
    clear HRE HRS HRA
    go_enter Try.func38, Try.ntmps38
    go_upto_region 1 with fail
    rw [HW.out]
    go_wp2_with fail
    refine CF.out.mono ?_; rintro e w4 ⟨rfl, hw⟩
    have hw' := hw.symm
    subst hw'
    clear hw
    go_wp2
    exact bodyPost_ret (v := .tuple #[.agg #[.slice none 0 0, .slice none 0 0], .int .i64 11]) (by simp [results, Try.results38, go_sem, *]) rfl (HF.out _ _)
  · have hge : ¬ (N : Int) < P := by omega
    have hNP : N = P := by omega
    rw [if_neg hge] at eE eS eA
    subst eE
    have HRS2 := Lib.hid eS
    have HRA2 := Lib.hid eA
    obtain ⟨hmy, -⟩ := jok_in HJK.out.2.2.1 HJK.out.1 HJK.out.2.1 (by rw [HN.out, HPP.out]; omega)
    have hmc := (mayE_app hmy).2
    have hmb := pr_nonneg hmc
    obtain ⟨M, hM⟩ : ∃ M : Nat, pr c = M := ⟨(pr c).toNat, by omega⟩
    have hMb : M ≤ 4096 := by omega
    have hNb : N ≤ 4096 := by omega
    have HMY := Lib.hid (And.intro hmc hM)
    have hlf : fn ≤ 8 := by have := (H1.out.ls (i := 1) rfl).len; have := (mayE_zero HJK.out.1).2.1; omega
    have hlc : cn ≤ 8 := by have := (H1.out.ls (i := 2) rfl).len; have := (mayE_zero hmc).2.1; omega
    have b1 : (0 + fn) * 8 ≤ 140737488351232 := by omega
    have b2 : (fn + cn) * 8 ≤ 140737488351232 := by omega
    clear eS eA hmy hmc hmb hM hlt hPb hle
    go_enter Try.func38, Try.ntmps38
    go_upto_region 1 with fail
    rw [HW.out]
    go_wp2_with fail
    refine CF.out.mono ?_; rintro e w4 ⟨rfl, hw⟩
    have hw' := hw.symm
    subst hw'
    clear hw CF
    go_upto_region 4 with fail
    have h2 := H1.out.intsNew (E := 3) (zs := []) (World.ownsRow_nil _ _ _ _) (Below.refl _ _) (by omega) (fun i => by simp [List.getD])
    obtain ⟨W2, HW2⟩ : ∃ z, Hid (W = z) := ⟨_, rfl⟩
    rw [HW2.out] at h2 ⊢
    have HSA_ := h2
    try simp only [List.cons_append, List.nil_append, List.set_cons_zero, List.set_cons_succ, List.map_cons, List.map_nil, List.getD_cons_zero, List.getD_cons_succ, World.size_alloc] at HSA_
    have HSA := Lib.hid HSA_
    clear HSA_
    clear h2 y0 y1 y2 x0 x1 f0 f1
    have HS0_ := HSA.out.via (adrew1 W2)
    try simp only [List.cons_append, List.nil_append, List.set_cons_zero, List.set_cons_succ, List.map_cons, List.map_nil, List.getD_cons_zero, List.getD_cons_succ, World.size_alloc] at HS0_
    have HS0 := Lib.hid HS0_
    clear HS0_
    have d0 := HS0.out.cell (i := 0) rfl 0 _ rfl
    have d1 := HS0.out.cell (i := 0) rfl 2 _ rfl
    obtain ⟨i0, hi0, hza, hzb, hzc⟩ := info_parts (P := Try.prog) (e := 3) (z := .int .i64 0) (size := 1) (bytes := 8) (by kernel_rfl)
    have HI0 := Lib.hid (And.intro hi0 (And.intro hza (And.intro hzb hzc)))
    obtain ⟨j0, hj0, hya, hyb, hyc⟩ := info_parts (P := Try.prog) (e := 2) (z := .int .i64 0) (size := 1) (bytes := 8) (by kernel_rfl)
    have HJ0 := Lib.hid (And.intro hj0 (And.intro hya (And.intro hyb hyc)))
    clear hi0 hza hzb hzc hj0 hya hyb hyc
    go_cut [5] from 24 to 34 (fun (v : Value) (wx : World) => ∃ (ob : Nat) (so : Option Addr) (sc : Nat), v = Value.pointer (some ⟨ob, 0, none⟩) ∧ Hid (Sp F w wx [Pt.row ⟨134, 3, some ⟨g, 0, none⟩, 1, 1, [.slice fo fn fc, .slice go N gc, .slice co cn cc]⟩, Pt.ints 3 fo fn fc fr, Pt.ints 3 co cn cc c, Pt.row ⟨45, 2, go, N, gc, cellsA As⟩, Pt.all (As.map Pt.arr), Pt.row ⟨45, 2, some ⟨w.heap.size, 0, none⟩, 1, 1, [.slice none 0 0, .slice none 0 0]⟩, Pt.row ⟨45, 2, some ⟨ob, 0, none⟩, 1, 1, [.slice so (fn + cn) sc, .slice none 0 0]⟩, Pt.ints 3 so (fn + cn) sc (fr ++ c)]))
    case first =>
      go_upto_region 4 with fail
      refine wp_region_noPanic ?_
      refine wp_region_hd (S := (fun wS => wS.cell? ⟨g, 0, none⟩ = some (.slice fo fn fc) ∧ wS.cell? ⟨g, 2, none⟩ = some (.slice co cn cc))) 12 (by kernel_rfl) (by kernel_rfl) ?_ (fun hHeld => ?_)
      · exact ⟨d0, d1⟩
      refine wpHd_take (i := 0) (v := ?_) (by kernel_rfl) (by simp only [List.getElem?_toArray, List.getElem?_cons_succ, List.getElem?_cons_zero] <;> rfl) (by kernel_rfl) (fun _ _ _ h => h) (Or.inl ⟨by rfl, ?_⟩) (by assumption) ?_
      rotate_left
      · (intro wS hSw; (try dsimp only at hSw); go_simp <;> with_reducible rfl)
      try simp only [Act.put, List.setIfInBounds_toArray, List.set_cons_zero, List.set_cons_succ, Nat.zero_add]
      refine wpHd_take (i := 1) (v := ?_) (by kernel_rfl) (by simp only [List.getElem?_toArray, List.getElem?_cons_succ, List.getElem?_cons_zero] <;> rfl) (by kernel_rfl) (fun _ _ _ h => h) (Or.inl ⟨by rfl, ?_⟩) (by assumption) ?_
      rotate_left
      · (intro wS hSw; (try dsimp only at hSw); go_simp <;> with_reducible rfl)
      try simp only [Act.put, List.setIfInBounds_toArray, List.set_cons_zero, List.set_cons_succ, Nat.zero_add]
      refine wpHd_take (i := 2) (v := ?_) (by kernel_rfl) (by simp only [List.getElem?_toArray, List.getElem?_cons_succ, List.getElem?_cons_zero] <;> rfl) (by kernel_rfl) (fun _ _ _ h => h) (Or.inl ⟨by rfl, ?_⟩) (by assumption) ?_
      rotate_left
      · (intro wS hSw; (try dsimp only at hSw); go_simp <;> with_reducible rfl)
      try simp only [Act.put, List.setIfInBounds_toArray, List.set_cons_zero, List.set_cons_succ, Nat.zero_add]
      refine wpHd_take (i := 3) (v := ?_) (by kernel_rfl) (by simp only [List.getElem?_toArray, List.getElem?_cons_succ, List.getElem?_cons_zero] <;> rfl) (by kernel_rfl) (fun _ _ _ h => h) (Or.inl ⟨by rfl, ?_⟩) (by assumption) ?_
      rotate_left
      · (intro wS hSw; (try dsimp only at hSw); go_simp <;> with_reducible rfl)
      try simp only [Act.put, List.setIfInBounds_toArray, List.set_cons_zero, List.set_cons_succ, Nat.zero_add]
      refine wpHd_take (i := 5) (v := ?_) (by kernel_rfl) (by simp only [List.getElem?_toArray, List.getElem?_cons_succ, List.getElem?_cons_zero] <;> rfl) (by kernel_rfl) (fun _ _ _ h => h) (Or.inl ⟨by rfl, ?_⟩) (by assumption) ?_
      rotate_left
      · (intro wS hSw; (try dsimp only at hSw); go_simp <;> with_reducible rfl)
      try simp only [Act.put, List.setIfInBounds_toArray, List.set_cons_zero, List.set_cons_succ, Nat.zero_add]
      refine wpHd_take (i := 6) (v := ?_) (by kernel_rfl) (by simp only [List.getElem?_toArray, List.getElem?_cons_succ, List.getElem?_cons_zero] <;> rfl) (by kernel_rfl) (fun _ _ _ h => h) (Or.inl ⟨by rfl, ?_⟩) (by assumption) ?_
      rotate_left
      · (intro wS hSw; (try dsimp only at hSw); go_simp <;> with_reducible rfl)
      try simp only [Act.put, List.setIfInBounds_toArray, List.set_cons_zero, List.set_cons_succ, Nat.zero_add]
      refine wpHd_take (i := 7) (v := ?_) (by kernel_rfl) (by simp only [List.getElem?_toArray, List.getElem?_cons_succ, List.getElem?_cons_zero] <;> rfl) (by kernel_rfl) (fun _ _ _ h => h) (Or.inl ⟨by rfl, ?_⟩) (by assumption) ?_
      rotate_left
      · (intro wS hSw; (try dsimp only at hSw); go_simp <;> with_reducible rfl)
      try simp only [Act.put, List.setIfInBounds_toArray, List.set_cons_zero, List.set_cons_succ, Nat.zero_add]
      refine wpHd_take (i := 8) (v := ?_) (by kernel_rfl) (by simp only [List.getElem?_toArray, List.getElem?_cons_succ, List.getElem?_cons_zero] <;> rfl) (by kernel_rfl) (fun _ _ _ h => h) (Or.inl ⟨by rfl, ?_⟩) (by assumption) ?_
      rotate_left
      · (intro wS hSw; (try dsimp only at hSw); go_simp <;> with_reducible rfl)
      try simp only [Act.put, List.setIfInBounds_toArray, List.set_cons_zero, List.set_cons_succ, Nat.zero_add]
      refine wpHd_ready (rs := [4, 11]) (by kernel_rfl) (by simp) ?_
      refine (RdyHd.cons (by simp only [List.getElem?_toArray, List.getElem?_cons_succ, List.getElem?_cons_zero] <;> rfl) (by decide) (fun K hK => ?_) (RdyHd.cons (by simp only [List.getElem?_toArray, List.getElem?_cons_succ, List.getElem?_cons_zero] <;> rfl) (by decide) (fun K hK => ?_) RdyHd.nil))
      · have LSX := Lib.hid (HS0.out.ls (i := 1) rfl)
        refine Sp.step_loc HS0.out rfl _ _ 25 (by rfl) 3 i0 Try.underlying25 HI0.out.1 HI0.out.2.1 HI0.out.2.2.1 HI0.out.2.2.2 (i := 6) rfl (by rfl) (by rfl) LSX.out b1 ?_
        intro fo2 fd2 w5 h5
        simp only [Nat.zero_add, List.nil_append, List.set_cons_zero, List.set_cons_succ] at h5
        have HS1 := Lib.hid h5
        clear h5 d0 d1
        have d0 := HS1.out.cell (i := 0) rfl 0 _ rfl; have d1 := HS1.out.cell (i := 0) rfl 2 _ rfl
        refine hK.out _ _ ?_ (fun hHeld => ?_)
        · exact ⟨d0, d1⟩
        clear hK K
        try simp only [Act.put, List.setIfInBounds_toArray, List.set_cons_zero, List.set_cons_succ, Nat.zero_add]
        refine wpHd_ready (rs := [9, 11]) (by kernel_rfl) (by simp) ?_
        refine (RdyHd.cons (by simp only [List.getElem?_toArray, List.getElem?_cons_succ, List.getElem?_cons_zero] <;> rfl) (by decide) (fun K hK => ?_) (RdyHd.cons (by simp only [List.getElem?_toArray, List.getElem?_cons_succ, List.getElem?_cons_zero] <;> rfl) (by decide) (fun K hK => ?_) RdyHd.nil))
        · have LSX := Lib.hid (HS1.out.ls (i := 2) rfl)
          refine Sp.step_loc HS1.out rfl _ _ 25 (by rfl) 3 i0 Try.underlying25 HI0.out.1 HI0.out.2.1 HI0.out.2.2.1 HI0.out.2.2.2 (i := 6) rfl (by rfl) (by rfl) LSX.out b2 ?_
          intro so sc w6 h5
          simp only [Nat.zero_add, List.nil_append, List.set_cons_zero, List.set_cons_succ] at h5
          have HS2 := Lib.hid h5
          clear h5 d0 d1
          have d0 := HS2.out.cell (i := 0) rfl 0 _ rfl; have d1 := HS2.out.cell (i := 0) rfl 2 _ rfl
          refine hK.out _ _ ?_ (fun hHeld => ?_)
          · exact ⟨d0, d1⟩
          clear hK K
          try simp only [Act.put, List.setIfInBounds_toArray, List.set_cons_zero, List.set_cons_succ, Nat.zero_add]
          refine wpHd_take (i := 10) (v := ?_) (by kernel_rfl) (by simp only [List.getElem?_toArray, List.getElem?_cons_succ, List.getElem?_cons_zero] <;> rfl) (by kernel_rfl) (fun _ _ _ h => h) (Or.inl ⟨by rfl, ?_⟩) (by assumption) ?_
          rotate_left
          · (intro wS hSw; (try dsimp only at hSw); go_simp <;> with_reducible rfl)
          try simp only [Act.put, List.setIfInBounds_toArray, List.set_cons_zero, List.set_cons_succ, Nat.zero_add]
          refine wpHd_ready (rs := [11]) (by kernel_rfl) (by simp) ?_
          refine (RdyHd.cons (by simp only [List.getElem?_toArray, List.getElem?_cons_succ, List.getElem?_cons_zero] <;> rfl) (by decide) (fun K hK => ?_) RdyHd.nil)
          · go_simp
            have HS3_ := HS2.out.alloc 45 2 1 #[.slice none 0 0, .slice none 0 0] rfl (by decide)
            try simp only [List.cons_append, List.nil_append, List.set_cons_zero, List.set_cons_succ, List.map_cons, List.map_nil, List.getD_cons_zero, List.getD_cons_succ, World.size_alloc] at HS3_
            have HS3 := Lib.hid HS3_
            clear HS3_
            clear d0 d1
            have d0 := HS3.out.cell (i := 0) rfl 0 _ rfl; have d1 := HS3.out.cell (i := 0) rfl 2 _ rfl
            refine hK.out _ _ ?_ (fun hHeld => ?_)
            · exact ⟨d0, d1⟩
            clear hK K
            try simp only [Act.put, List.setIfInBounds_toArray, List.set_cons_zero, List.set_cons_succ, Nat.zero_add]
            refine wpHd_done (by kernel_rfl) ?_
            simp only [List.drop_succ_cons, List.drop_zero]
            have c0 := HS3.out.cell (i := 7) rfl 0 _ rfl; have c1 := HS3.out.cell (i := 7) rfl 1 _ rfl; have f0 := HS3.out.frozen (i := 7) rfl 0; have f1 := HS3.out.frozen (i := 7) rfl 1
            go_wp2_with fail
            refine NoPanic.normal ?_
            go_wp2_with fail
            go_meet
            exact ⟨w6.heap.size, so, sc, rfl, (HS2.out.alloc 45 2 1 #[.slice so (fn + cn) sc, .slice none 0 0] rfl (by decide)).pick [0, 1, 2, 3, 4, 5, 7, 6] (by decide)⟩
        · go_simp
          have HS2_ := HS1.out.alloc 45 2 1 #[.slice none 0 0, .slice none 0 0] rfl (by decide)
          try simp only [List.cons_append, List.nil_append, List.set_cons_zero, List.set_cons_succ, List.map_cons, List.map_nil, List.getD_cons_zero, List.getD_cons_succ, World.size_alloc] at HS2_
          have HS2 := Lib.hid HS2_
          clear HS2_
          clear d0 d1
          have d0 := HS2.out.cell (i := 0) rfl 0 _ rfl; have d1 := HS2.out.cell (i := 0) rfl 2 _ rfl
          refine hK.out _ _ ?_ (fun hHeld => ?_)
          · exact ⟨d0, d1⟩
          clear hK K
          try simp only [Act.put, List.setIfInBounds_toArray, List.set_cons_zero, List.set_cons_succ, Nat.zero_add]
          refine wpHd_ready (rs := [9]) (by kernel_rfl) (by simp) ?_
          refine (RdyHd.cons (by simp only [List.getElem?_toArray, List.getElem?_cons_succ, List.getElem?_cons_zero] <;> rfl) (by decide) (fun K hK => ?_) RdyHd.nil)
          · have LSX := Lib.hid (HS2.out.ls (i := 2) rfl)
            refine Sp.step_loc HS2.out rfl _ _ 25 (by rfl) 3 i0 Try.underlying25 HI0.out.1 HI0.out.2.1 HI0.out.2.2.1 HI0.out.2.2.2 (i := 6) rfl (by rfl) (by rfl) LSX.out b2 ?_
            intro so sc w6 h5
            simp only [Nat.zero_add, List.nil_append, List.set_cons_zero, List.set_cons_succ] at h5
            have HS3 := Lib.hid h5
            clear h5 d0 d1
            have d0 := HS3.out.cell (i := 0) rfl 0 _ rfl; have d1 := HS3.out.cell (i := 0) rfl 2 _ rfl
            refine hK.out _ _ ?_ (fun hHeld => ?_)
            · exact ⟨d0, d1⟩
            clear hK K
            try simp only [Act.put, List.setIfInBounds_toArray, List.set_cons_zero, List.set_cons_succ, Nat.zero_add]
            refine wpHd_take (i := 10) (v := ?_) (by kernel_rfl) (by simp only [List.getElem?_toArray, List.getElem?_cons_succ, List.getElem?_cons_zero] <;> rfl) (by kernel_rfl) (fun _ _ _ h => h) (Or.inl ⟨by rfl, ?_⟩) (by assumption) ?_
            rotate_left
            · (intro wS hSw; (try dsimp only at hSw); go_simp <;> with_reducible rfl)
            try simp only [Act.put, List.setIfInBounds_toArray, List.set_cons_zero, List.set_cons_succ, Nat.zero_add]
            refine wpHd_done (by kernel_rfl) ?_
            simp only [List.drop_succ_cons, List.drop_zero]
            have c0 := HS3.out.cell (i := 7) rfl 0 _ rfl; have c1 := HS3.out.cell (i := 7) rfl 1 _ rfl; have f0 := HS3.out.frozen (i := 7) rfl 0; have f1 := HS3.out.frozen (i := 7) rfl 1
            go_wp2_with fail
            refine NoPanic.normal ?_
            go_wp2_with fail
            go_meet
            exact ⟨w5.heap.size, so, sc, rfl, ((HS3.out.put (i := 7) rfl 0 (.slice so (fn + cn) sc)).put (i := 7) rfl 1 (.slice none 0 0)).pick [0, 1, 2, 3, 4, 5, 7, 6] (by decide)⟩
      · go_simp
        have HS1_ := (HSA.out.alloc 45 2 1 #[.slice none 0 0, .slice none 0 0] rfl (by decide)).via (adrew1 _)
        try simp only [List.cons_append, List.nil_append, List.set_cons_zero, List.set_cons_succ, List.map_cons, List.map_nil, List.getD_cons_zero, List.getD_cons_succ, World.size_alloc] at HS1_
        have HS1 := Lib.hid HS1_
        clear HS1_
        clear d0 d1
        have d0 := HS1.out.cell (i := 0) rfl 0 _ rfl; have d1 := HS1.out.cell (i := 0) rfl 2 _ rfl
        refine hK.out _ _ ?_ (fun hHeld => ?_)
        · exact ⟨d0, d1⟩
        clear hK K
        try simp only [Act.put, List.setIfInBounds_toArray, List.set_cons_zero, List.set_cons_succ, Nat.zero_add]
        refine wpHd_ready (rs := [4]) (by kernel_rfl) (by simp) ?_
        refine (RdyHd.cons (by simp only [List.getElem?_toArray, List.getElem?_cons_succ, List.getElem?_cons_zero] <;> rfl) (by decide) (fun K hK => ?_) RdyHd.nil)
        · have LSX := Lib.hid (HS1.out.ls (i := 1) rfl)
          refine Sp.step_loc HS1.out rfl _ _ 25 (by rfl) 3 i0 Try.underlying25 HI0.out.1 HI0.out.2.1 HI0.out.2.2.1 HI0.out.2.2.2 (i := 6) rfl (by rfl) (by rfl) LSX.out b1 ?_
          intro fo2 fd2 w5 h5
          simp only [Nat.zero_add, List.nil_append, List.set_cons_zero, List.set_cons_succ] at h5
          have HS2 := Lib.hid h5
          clear h5 d0 d1
          have d0 := HS2.out.cell (i := 0) rfl 0 _ rfl; have d1 := HS2.out.cell (i := 0) rfl 2 _ rfl
          refine hK.out _ _ ?_ (fun hHeld => ?_)
          · exact ⟨d0, d1⟩
          clear hK K
          try simp only [Act.put, List.setIfInBounds_toArray, List.set_cons_zero, List.set_cons_succ, Nat.zero_add]
          refine wpHd_ready (rs := [9]) (by kernel_rfl) (by simp) ?_
          refine (RdyHd.cons (by simp only [List.getElem?_toArray, List.getElem?_cons_succ, List.getElem?_cons_zero] <;> rfl) (by decide) (fun K hK => ?_) RdyHd.nil)
          · have LSX := Lib.hid (HS2.out.ls (i := 2) rfl)
            refine Sp.step_loc HS2.out rfl _ _ 25 (by rfl) 3 i0 Try.underlying25 HI0.out.1 HI0.out.2.1 HI0.out.2.2.1 HI0.out.2.2.2 (i := 6) rfl (by rfl) (by rfl) LSX.out b2 ?_
            intro so sc w6 h5
            simp only [Nat.zero_add, List.nil_append, List.set_cons_zero, List.set_cons_succ] at h5
            have HS3 := Lib.hid h5
            clear h5 d0 d1
            have d0 := HS3.out.cell (i := 0) rfl 0 _ rfl; have d1 := HS3.out.cell (i := 0) rfl 2 _ rfl
            refine hK.out _ _ ?_ (fun hHeld => ?_)
            · exact ⟨d0, d1⟩
            clear hK K
            try simp only [Act.put, List.setIfInBounds_toArray, List.set_cons_zero, List.set_cons_succ, Nat.zero_add]
            refine wpHd_take (i := 10) (v := ?_) (by kernel_rfl) (by simp only [List.getElem?_toArray, List.getElem?_cons_succ, List.getElem?_cons_zero] <;> rfl) (by kernel_rfl) (fun _ _ _ h => h) (Or.inl ⟨by rfl, ?_⟩) (by assumption) ?_
            rotate_left
            · (intro wS hSw; (try dsimp only at hSw); go_simp <;> with_reducible rfl)
            try simp only [Act.put, List.setIfInBounds_toArray, List.set_cons_zero, List.set_cons_succ, Nat.zero_add]
            refine wpHd_done (by kernel_rfl) ?_
            simp only [List.drop_succ_cons, List.drop_zero]
            have c0 := HS3.out.cell (i := 7) rfl 0 _ rfl; have c1 := HS3.out.cell (i := 7) rfl 1 _ rfl; have f0 := HS3.out.frozen (i := 7) rfl 0; have f1 := HS3.out.frozen (i := 7) rfl 1
            go_wp2_with fail
            refine NoPanic.normal ?_
            go_wp2_with fail
            go_meet
            exact ⟨W2.heap.size, so, sc, rfl, ((HS3.out.put (i := 7) rfl 0 (.slice so (fn + cn) sc)).put (i := 7) rfl 1 (.slice none 0 0)).pick [0, 1, 2, 3, 4, 5, 7, 6] (by decide)⟩
    case rest =>
      obtain ⟨ob, so, sc, rfl, HZ⟩ := hcut
      obtain ⟨U, hU⟩ : ∃ z : World, z = wc := ⟨_, rfl⟩
      subst hU
      clear d0 d1 HS0 HSA
      have hz := HZ.out
      have hN0 : 0 < N := by have := HJK.out.2.1; rw [HPP.out] at this; omega
      obtain ⟨gob, rfl⟩ := (hz.rcap (i := 3) rfl).2.2.2.2 (by have := (hz.rcap (i := 3) rfl).1; omega)
      have C4 := Lib.hid (rcount_any (hz.ls (i := 2) rfl) HMY.out.1)
      rw [HMY.out.2] at C4
      have y2 := hz.cell (i := 0) rfl 2 _ rfl
      have HZ0 : Hid (RDoneI F w U g fo fn fc fr co cn cc c gob N gc As ob so (fn + cn) sc (fr ++ c) (dnX c G 0 0)) := ⟨none, 0, 0, by rw [dnX_zero]; exact hz.intsNew (E := 2) (zs := []) (World.ownsRow_nil _ _ _ _) (Below.refl _ _) (by omega) (fun i => by simp [List.getD])⟩
      clear hz HZ
      go_wp2_with fail
      refine C4.out.mono ?_; rintro e w7 ⟨rfl, hw⟩
      have hw' := hw.symm
      subst hw'
      go_wp2_with fail
      clear C4 y2
      go_loopw [7] (fun v wr => ∃ i : Nat, i ≤ N ∧ v = .int .i64 i ∧ Hid (RDoneI F w wr g fo fn fc fr co cn cc c gob N gc As ob so (fn + cn) sc (fr ++ c) (dnX c G i 0))) (fun v _ => N - (RowKit.intOf v).toNat)
      case atStart => exact ⟨0, by omega, rfl, HZ0⟩
      case round =>
        obtain ⟨i, hi, rfl, HO⟩ := hrel
        by_cases hlt : i < N
        · have hAl : As.length = N := by have := congrArg List.length HJK.out.2.2.2; rw [List.length_map] at this; rw [this]; exact HN.out
          obtain ⟨⟨ea, en, ec, ba, bn, bc, s, a⟩, hAi⟩ : ∃ B, As[i]? = some B := ⟨As[i]'(by omega), List.getElem?_eq_getElem _⟩
          have hGi : G[i]? = some (s, a) := by rw [← HJK.out.2.2.2, List.getElem?_map, hAi]; rfl
          obtain ⟨k1, k2⟩ := cellsA_at hAi
          have K1 := Lib.hid k1
          have K2 := Lib.hid k2
          obtain ⟨hma, hcov⟩ := HJK.out.2.2.1.all (s, a) (List.mem_of_getElem? hGi)
          have HMA : Hid (amE s a = 0 ∧ Cov c s) := ⟨hma, hcov⟩
          have HAi := Lib.hid (And.intro hAi hGi)
          have hnM : Hid (M = (pr c).toNat) := by show _ = _; rw [HMY.out.2]; rfl
          have hlt' : (i : Int) < N := by omega
          have z11 : IntKind.i64.wrap ((i : Int) + 1) = i + 1 := IntWalk.i64_in _ (by omega)
          clear hAl hAi hGi k1 k2 hma hcov
          go_wp2_with fail
          go_loopw [8] (fun v wr => ∃ k : Nat, k ≤ M ∧ v = .int .i64 k ∧ Hid (RDoneI F w wr g fo fn fc fr co cn cc c gob N gc As ob so (fn + cn) sc (fr ++ c) (dnX c G i k))) (fun v _ => M - (RowKit.intOf v).toNat)
          case atStart => exact ⟨0, by omega, rfl, HO⟩
          case round =>
            obtain ⟨k, hk, rfl, HK⟩ := hrel
            obtain ⟨ao, n, ac, hsp⟩ := HK.out
            by_cases hkt : k < M
            · have hkt' : (k : Int) < M := by omega
              have z12 : IntKind.i64.wrap ((k : Int) + 1) = k + 1 := IntWalk.i64_in _ (by omega)
              have hnb : (n + 1) * 8 ≤ 140737488351232 := by
                have h1 := (hsp.ls (i := 8) rfl).len
                have h2 := dnX_len (s := s) (a := a) hnM.out (by rw [HN.out]; omega : i ≤ G.length) (by omega : k ≤ M)
                have h3 := Nat.mul_le_mul (show i ≤ 4096 by omega) hMb
                omega
              have CT := Lib.hid (rat_any (hsp.ls (i := 2) rfl) (k : Int))
              have HTL : Hid (atL c k = ixL c k ∧ atE c k = 0) := by
                have h1 : (0 : Int) ≤ k ∧ (k : Int) < pr c := by rw [HMY.out.2]; omega
                exact ⟨by unfold atL; rw [if_pos ⟨HMY.out.1, h1.1, h1.2⟩], by unfold atE; rw [if_pos HMY.out.1, if_pos h1]⟩
              rw [HTL.out.1, HTL.out.2] at CT
              have y2 := hsp.cell (i := 0) rfl 2 _ rfl
              obtain ⟨tt, HTT⟩ : ∃ z, Hid (ixL c k = z) := ⟨_, rfl⟩
              rw [HTT.out] at CT
              obtain ⟨acc, HACC⟩ : ∃ z, Hid (dnX c G i k = z) := ⟨_, rfl⟩
              rw [HACC.out] at hsp
              have HB_ := hsp
              try simp only [List.cons_append, List.nil_append, List.set_cons_zero, List.set_cons_succ, List.map_cons, List.map_nil, List.getD_cons_zero, List.getD_cons_succ, World.size_alloc] at HB_
              have HB := Lib.hid HB_
              clear HB_
              clear HK hsp HO
              go_wp2_with fail
              refine CT.out.mono ?_; rintro e w4 ⟨tq, tn, tc, rfl, hLt, hOt, hbt⟩
              have HC_ := HB.out.via hbt
              try simp only [List.cons_append, List.nil_append, List.set_cons_zero, List.set_cons_succ, List.map_cons, List.map_nil, List.getD_cons_zero, List.getD_cons_succ, World.size_alloc] at HC_
              have HC := Lib.hid HC_
              clear HC_
              clear y2
              go_upto_region 13 with fail
              have HS_ := HC.out.via (adrew1 w4)
              try simp only [List.cons_append, List.nil_append, List.set_cons_zero, List.set_cons_succ, List.map_cons, List.map_nil, List.getD_cons_zero, List.getD_cons_succ, World.size_alloc] at HS_
              have HS := Lib.hid HS_
              clear HS_
              have htn : tn = cn := by
                have h1 := hLt.len
                have h2 := (HS.out.ls (i := 2) rfl).len
                rw [← HTT.out, ixL_len] at h1
                omega
              have hqa := HS.out.all_arr (i := 4) rfl HAi.out.1
              have CAT := Lib.hid (ratom_any hqa HMA.out.1 (hLt.via (adrew1 w4)) (by have := hqa.shp.len; have := (HS.out.ls (i := 2) rfl).len; have := HMA.out.2.1; simp only at *; omega) (by omega))
              simp only [Ar.v] at CAT
              have hz1 : atmV s a tt = (layL c s a).getD k 0 := by rw [← HTT.out]; exact atm_lay HMY.out.1 (amE_zero HMA.out.1).1 HMA.out.2 k (by rw [← hnM.out]; exact hkt)
              have HSTEP := Lib.hid (dnX_step hnM.out HAi.out.2 hkt)
              rw [← hz1, HACC.out] at HSTEP
              obtain ⟨z, HZZ⟩ : ∃ z, Hid (atmV s a tt = z) := ⟨_, rfl⟩
              rw [HZZ.out] at CAT HSTEP
              have HZR : Hid (-9223372036854775808 ≤ z ∧ z ≤ 9223372036854775807) := by rw [← HZZ.out]; exact atmV_rng hqa.ats.rng _
              have b9 := hnb
              have HFIN : Hid (∀ (w6 : World) (ao2 : Option Addr) (ac2 : Nat), Sp F w w6 [Pt.row ⟨134, 3, some ⟨g, 0, none⟩, 1, 1, [.slice fo fn fc, .slice (some ⟨gob, 0, none⟩) N gc, .slice co cn cc]⟩, Pt.ints 3 fo fn fc fr, Pt.ints 3 co cn cc c, Pt.row ⟨45, 2, (some ⟨gob, 0, none⟩), N, gc, cellsA As⟩, Pt.all (As.map Pt.arr), Pt.row ⟨45, 2, some ⟨w.heap.size, 0, none⟩, 1, 1, [.slice none 0 0, .slice none 0 0]⟩, Pt.row ⟨45, 2, some ⟨ob, 0, none⟩, 1, 1, [.slice so (fn + cn) sc, .slice ao n ac]⟩, Pt.ints 3 so (fn + cn) sc (fr ++ c), Pt.ints 2 ao2 (n + 1) ac2 (acc ++ [z])] → RDoneI F w (w6.setCell ⟨ob, 1, none⟩ (.slice ao2 (n + 1) ac2)) g fo fn fc fr co cn cc c gob N gc As ob so (fn + cn) sc (fr ++ c) (dnX c G i (k + 1))) := fun w6 ao2 ac2 h => ⟨ao2, n + 1, ac2, by rw [← HSTEP.out]; exact h.put (i := 6) rfl 1 (.slice ao2 (n + 1) ac2)⟩
              have d0 := HS.out.cell (i := 6) rfl 1 _ rfl
              have d1 := HS.out.cell (i := 0) rfl 1 _ rfl
              have d2 := HS.out.cell (i := 3) rfl _ _ K1.out
              have d3 := HS.out.cell (i := 3) rfl _ _ K2.out
              clear hnb htn hqa hz1 hLt hOt hbt CT
              refine wp_region_noPanic ?_
              refine wp_region_hd (S := (fun wS => wS.cell? ⟨ob, 1, none⟩ = some (.slice ao n ac) ∧ wS.cell? ⟨g, 1, none⟩ = some (.slice (some ⟨gob, 0, none⟩) N gc) ∧ wS.cell? ⟨gob, i * 2, none⟩ = some (.slice ea en ec) ∧ wS.cell? ⟨gob, i * 2 + 1, none⟩ = some (.slice ba bn bc))) 14 (by kernel_rfl) (by kernel_rfl) ?_ (fun hHeld => ?_)
              · exact ⟨d0, d1, d2, d3⟩
              refine wpHd_take (i := 0) (v := ?_) (by kernel_rfl) (by simp only [List.getElem?_toArray, List.getElem?_cons_succ, List.getElem?_cons_zero] <;> rfl) (by kernel_rfl) (fun _ _ _ h => h) (Or.inl ⟨by rfl, ?_⟩) (by assumption) ?_
              rotate_left
              · (intro wS hSw; (try dsimp only at hSw); go_simp <;> with_reducible rfl)
              try simp only [Act.put, List.setIfInBounds_toArray, List.set_cons_zero, List.set_cons_succ, Nat.zero_add]
              refine wpHd_take (i := 1) (v := ?_) (by kernel_rfl) (by simp only [List.getElem?_toArray, List.getElem?_cons_succ, List.getElem?_cons_zero] <;> rfl) (by kernel_rfl) (fun _ _ _ h => h) (Or.inl ⟨by rfl, ?_⟩) (by assumption) ?_
              rotate_left
              · (intro wS hSw; (try dsimp only at hSw); go_simp <;> with_reducible rfl)
              try simp only [Act.put, List.setIfInBounds_toArray, List.set_cons_zero, List.set_cons_succ, Nat.zero_add]
              refine wpHd_take (i := 2) (v := ?_) (by kernel_rfl) (by simp only [List.getElem?_toArray, List.getElem?_cons_succ, List.getElem?_cons_zero] <;> rfl) (by kernel_rfl) (fun _ _ _ h => h) (Or.inl ⟨by rfl, ?_⟩) (by assumption) ?_
              rotate_left
              · (intro wS hSw; (try dsimp only at hSw); go_simp <;> with_reducible rfl)
              try simp only [Act.put, List.setIfInBounds_toArray, List.set_cons_zero, List.set_cons_succ, Nat.zero_add]
              refine wpHd_take (i := 3) (v := ?_) (by kernel_rfl) (by simp only [List.getElem?_toArray, List.getElem?_cons_succ, List.getElem?_cons_zero] <;> rfl) (by kernel_rfl) (fun _ _ _ h => h) (Or.inl ⟨by rfl, ?_⟩) (by assumption) ?_
              rotate_left
              · (intro wS hSw; (try dsimp only at hSw); go_simp <;> with_reducible rfl)
              try simp only [Act.put, List.setIfInBounds_toArray, List.set_cons_zero, List.set_cons_succ, Nat.zero_add]
              refine wpHd_take (i := 4) (v := ?_) (by kernel_rfl) (by simp only [List.getElem?_toArray, List.getElem?_cons_succ, List.getElem?_cons_zero] <;> rfl) (by kernel_rfl) (fun _ _ _ h => h) (Or.inl ⟨by rfl, ?_⟩) (by assumption) ?_
              rotate_left
              · (intro wS hSw; (try dsimp only at hSw); go_simp <;> with_reducible rfl)
              try simp only [Act.put, List.setIfInBounds_toArray, List.set_cons_zero, List.set_cons_succ, Nat.zero_add]
              refine wpHd_take (i := 5) (v := ?_) (by kernel_rfl) (by simp only [List.getElem?_toArray, List.getElem?_cons_succ, List.getElem?_cons_zero] <;> rfl) (by kernel_rfl) (fun _ _ _ h => h) (Or.inl ⟨by rfl, ?_⟩) (by assumption) ?_
              rotate_left
              · (intro wS hSw; (try dsimp only at hSw); go_simp <;> with_reducible rfl)
              try simp only [Act.put, List.setIfInBounds_toArray, List.set_cons_zero, List.set_cons_succ, Nat.zero_add]
              refine wpHd_take (i := 6) (v := ?_) (by kernel_rfl) (by simp only [List.getElem?_toArray, List.getElem?_cons_succ, List.getElem?_cons_zero] <;> rfl) (by kernel_rfl) (fun _ _ _ h => h) (Or.inl ⟨by rfl, ?_⟩) (by assumption) ?_
              rotate_left
              · (intro wS hSw; (try dsimp only at hSw); go_simp <;> with_reducible rfl)
              try simp only [Act.put, List.setIfInBounds_toArray, List.set_cons_zero, List.set_cons_succ, Nat.zero_add]
              refine wpHd_take (i := 7) (v := ?_) (by kernel_rfl) (by simp only [List.getElem?_toArray, List.getElem?_cons_succ, List.getElem?_cons_zero] <;> rfl) (by kernel_rfl) (fun _ _ _ h => h) (Or.inl ⟨by rfl, ?_⟩) (by assumption) ?_
              rotate_left
              · (intro wS hSw; (try dsimp only at hSw); go_simp <;> with_reducible rfl)
              try simp only [Act.put, List.setIfInBounds_toArray, List.set_cons_zero, List.set_cons_succ, Nat.zero_add]
              refine wpHd_take (i := 8) (v := ?_) (by kernel_rfl) (by simp only [List.getElem?_toArray, List.getElem?_cons_succ, List.getElem?_cons_zero] <;> rfl) (by kernel_rfl) (fun _ _ _ h => h) (Or.inl ⟨by rfl, ?_⟩) (by assumption) ?_
              rotate_left
              · (intro wS hSw; (try dsimp only at hSw); go_simp <;> with_reducible rfl)
              try simp only [Act.put, List.setIfInBounds_toArray, List.set_cons_zero, List.set_cons_succ, Nat.zero_add]
              refine wpHd_take (i := 9) (v := ?_) (by kernel_rfl) (by simp only [List.getElem?_toArray, List.getElem?_cons_succ, List.getElem?_cons_zero] <;> rfl) (by kernel_rfl) (fun _ _ _ h => h) (Or.inl ⟨by rfl, ?_⟩) (by assumption) ?_
              rotate_left
              · (intro wS hSw; (try dsimp only at hSw); go_simp <;> with_reducible rfl)
              try simp only [Act.put, List.setIfInBounds_toArray, List.set_cons_zero, List.set_cons_succ, Nat.zero_add]
              refine wpHd_ready (rs := [10]) (by kernel_rfl) (by simp) ?_
              refine (RdyHd.cons (by simp only [List.getElem?_toArray, List.getElem?_cons_succ, List.getElem?_cons_zero] <;> rfl) (by decide) (fun K hK => ?_) RdyHd.nil)
              · go_simp
                go_at_call 79
                refine CAT.out.mono ?_
                rintro e w5 ⟨rfl, hb5⟩
                have HT := Lib.hid (HS.out.via hb5)
                clear hb5 d0 d1 d2 d3
                have d0 := HT.out.cell (i := 6) rfl 1 _ rfl; have d1 := HT.out.cell (i := 0) rfl 1 _ rfl; have d2 := HT.out.cell (i := 3) rfl _ _ K1.out; have d3 := HT.out.cell (i := 3) rfl _ _ K2.out
                (try go_simp)
                refine hK.out _ _ ?_ (fun hHeld => ?_)
                · exact ⟨d0, d1, d2, d3⟩
                clear hK K
                try simp only [Act.put, List.setIfInBounds_toArray, List.set_cons_zero, List.set_cons_succ, Nat.zero_add]
                refine wpHd_ready (rs := [11]) (by kernel_rfl) (by simp) ?_
                refine (RdyHd.cons (by simp only [List.getElem?_toArray, List.getElem?_cons_succ, List.getElem?_cons_zero] <;> rfl) (by decide) (fun K hK => ?_) RdyHd.nil)
                · go_simp
                  have HU := Lib.hid (HT.out.via (abal w5 (.cells #[.int .i64 z] 2)))
                  clear d0 d1 d2 d3
                  have d0 := HU.out.cell (i := 6) rfl 1 _ rfl; have d1 := HU.out.cell (i := 0) rfl 1 _ rfl; have d2 := HU.out.cell (i := 3) rfl _ _ K1.out; have d3 := HU.out.cell (i := 3) rfl _ _ K2.out
                  refine hK.out _ _ ?_ (fun hHeld => ?_)
                  · exact ⟨d0, d1, d2, d3⟩
                  clear hK K
                  try simp only [Act.put, List.setIfInBounds_toArray, List.set_cons_zero, List.set_cons_succ, Nat.zero_add]
                  refine wpHd_ready (rs := [12]) (by kernel_rfl) (by simp) ?_
                  refine (RdyHd.cons (by simp only [List.getElem?_toArray, List.getElem?_cons_succ, List.getElem?_cons_zero] <;> rfl) (by decide) (fun K hK => ?_) RdyHd.nil)
                  · have LSX := Lib.hid (ls_oneC w5 2 z HZR.out)
                    refine Sp.step_loc HU.out rfl _ _ 28 (by rfl) 2 j0 Try.underlying28 HJ0.out.1 HJ0.out.2.1 HJ0.out.2.2.1 HJ0.out.2.2.2 (i := 8) rfl (by rfl) (by rfl) LSX.out b9 ?_
                    intro ao2 ac2 w6 h5
                    try simp only [Nat.zero_add, List.nil_append, List.set_cons_zero, List.set_cons_succ] at h5
                    have HV := Lib.hid h5
                    clear h5 d0 d1 d2 d3
                    have d0 := HV.out.cell (i := 6) rfl 1 _ rfl; have d1 := HV.out.cell (i := 0) rfl 1 _ rfl; have d2 := HV.out.cell (i := 3) rfl _ _ K1.out; have d3 := HV.out.cell (i := 3) rfl _ _ K2.out
                    have f1 := HV.out.frozen (i := 6) rfl 1
                    have HQ := Lib.hid (HFIN.out _ _ _ HV.out)
                    refine hK.out _ _ ?_ (fun hHeld => ?_)
                    · exact ⟨d0, d1, d2, d3⟩
                    clear hK K
                    try simp only [Act.put, List.setIfInBounds_toArray, List.set_cons_zero, List.set_cons_succ, Nat.zero_add]
                    refine wpHd_take (i := 13) (v := ?_) (by kernel_rfl) (by simp only [List.getElem?_toArray, List.getElem?_cons_succ, List.getElem?_cons_zero] <;> rfl) (by kernel_rfl) (fun _ _ _ h => h) (Or.inl ⟨by rfl, ?_⟩) (by assumption) ?_
                    rotate_left
                    · (intro wS hSw; (try dsimp only at hSw); go_simp <;> with_reducible rfl)
                    try simp only [Act.put, List.setIfInBounds_toArray, List.set_cons_zero, List.set_cons_succ, Nat.zero_add]
                    refine wpHd_done (by kernel_rfl) ?_
                    simp only [List.drop_succ_cons, List.drop_zero]
                    go_wp2_with fail
                    refine NoPanic.normal ?_
                    clear d0 d1 d2 d3 HFIN CAT
                    go_wp2
                    go_roundw
                    case rel => first | exact ⟨k + 1, by omega, by go_num, HQ⟩ | ((repeat apply Exists.intro); exact ⟨⟨k + 1, by omega, by go_num, HQ⟩, rfl⟩)
                    case measure => simp [RowKit.intOf]; omega
            · have hkge : ¬ ((k : Int) < M) := by omega
              obtain rfl : k = M := by omega
              have HN2 : Hid (RDoneI F w wr g fo fn fc fr co cn cc c gob N gc As ob so (fn + cn) sc (fr ++ c) (dnX c G (i + 1) 0)) := by
                have h := HK.out
                rw [dnX_next hnM.out HAi.out.2] at h
                exact h
              clear HK hsp HO
              go_wp2
              go_roundw
              case rel => first | exact ⟨i + 1, by omega, by go_num, HN2⟩ | ((repeat apply Exists.intro); exact ⟨⟨i + 1, by omega, by go_num, HN2⟩, rfl⟩)
              case measure => simp [RowKit.intOf]; omega
        · have hge : ¬ ((i : Int) < N) := by omega
          obtain rfl : i = N := by omega
          obtain ⟨ao, n, ac, hsp⟩ := HO.out
          have x0 := hsp.cell (i := 6) rfl 0 _ rfl
          have x1 := hsp.cell (i := 6) rfl 1 _ rfl
          have x4 := hsp.cell (i := 5) rfl 0 _ rfl
          have x5 := hsp.cell (i := 5) rfl 1 _ rfl
          have f0 := hsp.frozen (i := 5) rfl 0
          have f1 := hsp.frozen (i := 5) rfl 1
          have HF : Hid (RDoneP F w g fr c G RS RA 0 (.returned (.tuple #[.agg #[.slice so (fn + cn) sc, .slice ao n ac], .int .i64 0])) ((wr.setCell ⟨w.heap.size, 0, none⟩ (.slice so (fn + cn) sc)).setCell ⟨w.heap.size, 1, none⟩ (.slice ao n ac))) := by
            have h := (((hsp.put (i := 5) rfl 0 (.slice so (fn + cn) sc)).put (i := 5) rfl 1 (.slice ao n ac)).arrOf (i := 7) (j := 8) rfl (by decide) rfl).pick [0, 1, 2, 3, 4, 8] (by decide)
            have h2 := HEND.out _ ⟨so, fn + cn, sc, ao, n, ac, fr ++ c, dnX c G i 0⟩ 0 h
            have e : dnX c G i 0 = RA := by rw [HRA2.out, ← HN.out]; exact dnX_end _ _
            rw [HRS2.out, ← e]
            exact h2
          clear HO hsp
          go_wp2
          exact bodyPost_ret (v := .tuple #[.agg #[.slice so (fn + cn) sc, .slice ao n ac], .int .i64 0]) (by simp [results, Try.results38, go_sem, *]) rfl HF.out
end Go.Proofs.Ythackmkdicpdeaa

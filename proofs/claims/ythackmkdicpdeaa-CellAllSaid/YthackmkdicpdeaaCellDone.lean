/- Contract of cell.Joiner.Done. -/
import Derived.Test.YthackmkdicpdeaaCellLay
import Derived.Deep.CutBlock
namespace Go.Proofs.Ythackmkdicpdeaa
open Go.RowKit Go.Lib
set_option linter.unusedVariables false
set_option linter.unusedSimpArgs false
attribute [local go_sem] alloc_drewN setCell_drewN
theorem jok_in {fr c : List Int} {G : List (List Int × List Int)} (h : Jok fr c G) (hfr : mayE fr = 0) (hp : 0 < pr fr) (hl : ¬ (G.length : Int) < pr fr) : mayE (fr ++ c) = 0 ∧ (G.length : Int) = pr fr := by
  have := h.le
  exact ⟨h.may (by omega), by omega⟩
/-- What is laid in i rounds. -/
def dnR (c : List Int) (G : List (List Int × List Int)) (n i N : Nat) : List Int := ((G.take i).map fun x => layL c x.1 x.2).flatten ++ List.replicate ((N - i) * n) 0
theorem lay_lens (c : List Int) (G : List (List Int × List Int)) : ((G.map fun x => layL c x.1 x.2).flatten).length = G.length * (pr c).toNat := joined_len (fr := [])
theorem dnR_zero (c : List Int) (G : List (List Int × List Int)) (n N : Nat) : dnR c G n 0 N = List.replicate (N * n) 0 := by simp [dnR]
theorem dnR_end (c : List Int) (G : List (List Int × List Int)) (n : Nat) : dnR c G n G.length G.length = (G.map fun x => layL c x.1 x.2).flatten := by simp [dnR]
theorem dnR_zeros {c : List Int} {G : List (List Int × List Int)} {n i N : Nat} (hn : n = (pr c).toNat) (hG : G.length = N) (hi : i < N) : ((dnR c G n i N).drop (i * n)).take n = List.replicate n 0 := by
  have hl : (((G.take i).map fun x => layL c x.1 x.2).flatten).length = i * n := by rw [lay_lens, List.length_take, ← hn, Nat.min_eq_left (by omega)]
  unfold dnR
  rw [List.drop_append, hl, Nat.sub_self, List.drop_of_length_le (by omega), List.nil_append, List.drop_zero, List.take_replicate]
  congr 1
  have : n ≤ (N - i) * n := Nat.le_mul_of_pos_left n (by omega)
  omega
theorem dnR_step {c s a : List Int} {G : List (List Int × List Int)} {n i N : Nat} (hn : n = (pr c).toNat) (hG : G.length = N) (hi : i < N) (hx : G[i]? = some (s, a)) : layD (dnR c G n i N) (i * n) n c s a (pr (oneS c s)).toNat = dnR c G n (i + 1) N := by
  have hl : (((G.take i).map fun x => layL c x.1 x.2).flatten).length = i * n := by rw [lay_lens, List.length_take, ← hn, Nat.min_eq_left (by omega)]
  have e : G.take (i + 1) = G.take i ++ [(s, a)] := by rw [List.take_add_one, hx]; rfl
  unfold layD dnR
  rw [e, List.map_append, List.flatten_append, List.take_append, hl, Nat.sub_self, List.take_zero, List.append_nil, List.take_of_length_le (by omega), List.drop_append, hl, List.drop_of_length_le (by omega), List.nil_append, Nat.add_sub_cancel_left, List.drop_replicate]
  congr 1
  · simp [layL]
  · congr 1
    have : (N - i) * n = (N - (i + 1)) * n + n := by rw [← Nat.succ_mul]; congr 1; omega
    omega
def DoneP (F : Nat → Prop) (w : World) (g : Nat) (fr c : List Int) (G : List (List Int × List Int)) (s a : List Int) (err : Int) (e : Ending) (w' : World) : Prop :=
  ∃ B : Ar, e = .returned (.tuple #[B.v, .int .i64 err]) ∧ B.s = s ∧ B.a = a ∧ Sp F w w' [Pt.joiner g fr c G, Pt.arr B]
set_option maxRecDepth 100000 in
set_option maxHeartbeats 3200000 in
theorem done_any {w : World} {F : Nat → Prop} {g : Nat} {fr c : List Int} {G : List (List Int × List Int)} (hJ : (Pt.joiner g fr c G).P w F) :
    Calls Try.prog 27 #[.pointer (some ⟨g, 0, none⟩)] w (DoneP F w g fr c G (dnS fr c G) (dnA fr c G) (dnE fr G)) := by
  obtain ⟨⟨fo, fn, fc, co, cn, cc, go, gc, As⟩, ⟨hfr, hp, hjok, hG⟩, hall⟩ := hJ
  have h0 := Sp.of_all (Out.refl F w) hall (fun k h => .inl h)
  simp only [jnL] at h0 hG
  obtain ⟨N, HN⟩ : ∃ z, Hid (G.length = z) := ⟨_, rfl⟩
  rw [HN.out] at h0
  have hpb := pr_nonneg hfr
  obtain ⟨P, hP⟩ : ∃ P : Nat, pr fr = P := ⟨(pr fr).toNat, by omega⟩
  rw [hP] at h0
  have HPP := Lib.hid hP
  have hPb : P ≤ 4096 := by omega
  have hle : N ≤ P := by have := hjok.le; rw [HN.out] at this; omega
  have HJK := Lib.hid (And.intro hfr (And.intro hp (And.intro hjok hG)))
  obtain ⟨W, HW⟩ : ∃ z, Hid (w.alloc (.cells #[.slice none 0 0, .slice none 0 0] 45) = z) := ⟨_, rfl⟩
  have h1 := h0.alloc 45 2 1 #[.slice none 0 0, .slice none 0 0] rfl (by decide)
  rw [HW.out] at h1
  have H1_ := h1
  try simp only [List.cons_append, List.nil_append, List.set_cons_zero, List.set_cons_succ, List.map_cons, List.map_nil, List.getD_cons_zero, List.getD_cons_succ, World.size_alloc] at H1_
  have H1 := Lib.hid H1_
  clear H1_
  have HEND : Hid (∀ (w' : World) (B : Ar) (e : Int), Sp F w w' [Pt.row ⟨126, 4, some ⟨g, 0, none⟩, 1, 1, [.slice fo fn fc, .int .i64 P, .slice co cn cc, .slice go N gc]⟩, Pt.ints 3 fo fn fc fr, Pt.ints 3 co cn cc c, Pt.row ⟨45, 2, go, N, gc, cellsA As⟩, Pt.all (As.map Pt.arr), Pt.arr B] → DoneP F w g fr c G B.s B.a e (.returned (.tuple #[B.v, .int .i64 e])) w') := fun w' B e H =>
    ⟨B, rfl, rfl, rfl, (H.group 5).sub (i := 0) rfl (Pt.joiner g fr c G) fun F' hF => ⟨⟨fo, fn, fc, co, cn, cc, go, gc, As⟩, ⟨HJK.out.1, HJK.out.2.1, HJK.out.2.2.1, HJK.out.2.2.2⟩, by simp only [jnL]; rw [HPP.out, HN.out]; exact hF⟩⟩
  have eE : dnE fr G = if (G.length : Int) < pr fr then 11 else 0 := rfl
  have eS : dnS fr c G = if (G.length : Int) < pr fr then [] else fr ++ c := rfl
  have eA : dnA fr c G = if (G.length : Int) < pr fr then [] else (G.map fun x => layL c x.1 x.2).flatten := rfl
  rw [HN.out, hP] at eE eS eA
  obtain ⟨RE, HRE⟩ : ∃ z, Hid (dnE fr G = z) := ⟨_, rfl⟩
  obtain ⟨RS, HRS⟩ : ∃ z, Hid (dnS fr c G = z) := ⟨_, rfl⟩
  obtain ⟨RA, HRA⟩ : ∃ z, Hid (dnA fr c G = z) := ⟨_, rfl⟩
  rw [HRE.out, HRS.out, HRA.out]
  rw [HRE.out] at eE
  rw [HRS.out] at eS
  rw [HRA.out] at eA
  have y0 := H1.out.cell (i := 0) rfl 0 _ rfl
  have y1 := H1.out.cell (i := 0) rfl 1 _ rfl
  have y2 := H1.out.cell (i := 0) rfl 2 _ rfl
  have y3 := H1.out.cell (i := 0) rfl 3 _ rfl
  have x0 := H1.out.cell (i := 5) rfl 0 _ rfl
  have x1 := H1.out.cell (i := 5) rfl 1 _ rfl
  have f0 := H1.out.frozen (i := 5) rfl 0
  have f1 := H1.out.frozen (i := 5) rfl 1
  clear h0 h1 hfr hp hjok hG hpb hP hall
  by_cases hlt : N < P
  · have hlt' : (N : Int) < P := by omega
    rw [if_pos hlt'] at eE eS eA
    subst eE eS eA
    have HF : Hid (∀ q u v, DoneP F w g fr c G [] [] 11 (.returned (.tuple #[.agg #[.slice none 0 0, .slice none 0 0], .int .i64 11])) (((W.setCell ⟨w.heap.size, 0, none⟩ u).setCell ⟨w.heap.size, 1, none⟩ v).drewN q)) := fun q u v => by
      have h := (((((H1.out.put (i := 5) rfl 0 u).put (i := 5) rfl 1 v).via (adrew _ q)).arrNew (Ar.is_nil _) (Ar.own_nil _ _) (Below.refl _ _))).pick [0, 1, 2, 3, 4, 6] (by decide)
      exact HEND.out _ ⟨none, 0, 0, none, 0, 0, [], []⟩ 11 h
    clear HRE HRS HRA
    go_enter Try.func27, Try.ntmps27
    go_wp2_with fail
    rw [HW.out]
    go_quiet (fail)
    go_wp2
    exact bodyPost_ret (v := .tuple #[.agg #[.slice none 0 0, .slice none 0 0], .int .i64 11]) (by simp [results, Try.results27, go_sem, *]) rfl (HF.out _ _ _)
  · have hge : ¬ (N : Int) < P := by omega
    have hNP : N = P := by omega
    rw [if_neg hge] at eE eS eA
    subst eE
    have HRS2 := Lib.hid eS
    have HRA2 := Lib.hid eA
    obtain ⟨hmy, -⟩ := jok_in HJK.out.2.2.1 HJK.out.1 HJK.out.2.1 (by rw [HN.out, HPP.out]; omega)
    have hmc := (mayE_app hmy).2
    have hmb := pr_nonneg hmc
    obtain ⟨M, hM⟩ : ∃ M : Nat, pr c = M := ⟨(pr c).toNat, by omega⟩
    have hMb : M ≤ 4096 := by omega
    have hNM : (pr (fr ++ c)).toNat = N * M := by
      rw [pr_app, HPP.out, hM, ← hNP, ← Int.natCast_mul, Int.toNat_natCast]
    have HMY := Lib.hid (And.intro hmy (And.intro hmc hM))
    have HNM := Lib.hid hNM
    have hlf : fn ≤ 1000000 := by have := (H1.out.ls (i := 1) rfl).len; have := (mayE_zero HJK.out.1).2.1; omega
    have hlc : cn ≤ 1000000 := by have := (H1.out.ls (i := 2) rfl).len; have := (mayE_zero hmc).2.1; omega
    clear eS eA hmy hmc hmb hM hNM hlt hNP
    go_enter Try.func27, Try.ntmps27
    go_wp2_with fail
    rw [HW.out]
    go_quiet (fail)
    obtain ⟨W2, HW2⟩ : ∃ z, Hid (W.drewN nq = z) := ⟨_, rfl⟩
    have h2 := H1.out.via (adrew W nq)
    rw [HW2.out] at h2 ⊢
    have H2_ := h2
    try simp only [List.cons_append, List.nil_append, List.set_cons_zero, List.set_cons_succ, List.map_cons, List.map_nil, List.getD_cons_zero, List.getD_cons_succ, World.size_alloc] at H2_
    have H2 := Lib.hid H2_
    clear H2_
    clear h2 y0 y1 y2 y3 x0 x1 f0 f1
    go_upto_region 3 with fail
    go_cut [4] from 17 to 29 (fun (v : Value) (wx : World) => ∃ (ob : Nat) (Z : Ar), v = Value.pointer (some ⟨ob, 0, none⟩) ∧ Hid (Z.s = fr ++ c ∧ Z.a = List.replicate (N * M) 0 ∧ Sp F w wx [Pt.row ⟨126, 4, some ⟨g, 0, none⟩, 1, 1, [.slice fo fn fc, .int .i64 P, .slice co cn cc, .slice go N gc]⟩, Pt.ints 3 fo fn fc fr, Pt.ints 3 co cn cc c, Pt.row ⟨45, 2, go, N, gc, cellsA As⟩, Pt.all (As.map Pt.arr), Pt.row ⟨45, 2, some ⟨w.heap.size, 0, none⟩, 1, 1, [.slice none 0 0, .slice none 0 0]⟩,
      Pt.row ⟨45, 2, some ⟨ob, 0, none⟩, 1, 1, [.slice Z.sa Z.sn Z.sc, .slice Z.aa Z.an Z.ac]⟩, Pt.ints 3 Z.sa Z.sn Z.sc Z.s, Pt.ints 2 Z.aa Z.an Z.ac Z.a]))
    case first =>
      have H3_ := H2.out.via (adrew1 W2)
      try simp only [List.cons_append, List.nil_append, List.set_cons_zero, List.set_cons_succ, List.map_cons, List.map_nil, List.getD_cons_zero, List.getD_cons_succ, World.size_alloc] at H3_
      have H3 := Lib.hid H3_
      clear H3_
      have Ha_ := (H2.out.alloc 45 2 1 #[.slice none 0 0, .slice none 0 0] rfl (by decide)).via (adrew1 _)
      try simp only [List.cons_append, List.nil_append, List.set_cons_zero, List.set_cons_succ, List.map_cons, List.map_nil, List.getD_cons_zero, List.getD_cons_succ, World.size_alloc] at Ha_
      have Ha := Lib.hid Ha_
      clear Ha_
      have H4_ := (H2.out.alloc 25 1 2 #[.slice fo fn fc, .slice co cn cc] rfl (by decide)).via (adrew1 _)
      try simp only [List.cons_append, List.nil_append, List.set_cons_zero, List.set_cons_succ, List.map_cons, List.map_nil, List.getD_cons_zero, List.getD_cons_succ, World.size_alloc] at H4_
      have H4 := Lib.hid H4_
      clear H4_
      have Hb_ := ((H2.out.alloc 25 1 2 #[.slice fo fn fc, .slice co cn cc] rfl (by decide)).alloc 45 2 1 #[.slice none 0 0, .slice none 0 0] rfl (by decide)).via (adrew1 _)
      try simp only [List.cons_append, List.nil_append, List.set_cons_zero, List.set_cons_succ, List.map_cons, List.map_nil, List.getD_cons_zero, List.getD_cons_succ, World.size_alloc] at Hb_
      have Hb := Lib.hid Hb_
      clear Hb_
      have Hc_ := ((H2.out.alloc 45 2 1 #[.slice none 0 0, .slice none 0 0] rfl (by decide)).alloc 25 1 2 #[.slice fo fn fc, .slice co cn cc] rfl (by decide)).via (adrew1 _)
      try simp only [List.cons_append, List.nil_append, List.set_cons_zero, List.set_cons_succ, List.map_cons, List.map_nil, List.getD_cons_zero, List.getD_cons_succ, World.size_alloc] at Hc_
      have Hc := Lib.hid Hc_
      clear Hc_
      have CT4 := concat_two (H4.out.rlt (i := 6) rfl).1 (H4.out.cell (i := 6) rfl 0 _ rfl) (H4.out.cell (i := 6) rfl 1 _ rfl) (H4.out.ls (i := 1) rfl) (H4.out.ls (i := 2) rfl) hlf hlc
      have CTb := concat_two (Hb.out.rlt (i := 6) rfl).1 (Hb.out.cell (i := 6) rfl 0 _ rfl) (Hb.out.cell (i := 6) rfl 1 _ rfl) (Hb.out.ls (i := 1) rfl) (Hb.out.ls (i := 2) rfl) hlf hlc
      have CTc := concat_two (Hc.out.rlt (i := 7) rfl).1 (Hc.out.cell (i := 7) rfl 0 _ rfl) (Hc.out.cell (i := 7) rfl 1 _ rfl) (Hc.out.ls (i := 1) rfl) (Hc.out.ls (i := 2) rfl) hlf hlc
      have y0 := H3.out.cell (i := 0) rfl 0 _ rfl
      have y2 := H3.out.cell (i := 0) rfl 2 _ rfl
      have y4 := Ha.out.cell (i := 0) rfl 0 _ rfl
      have y5 := Ha.out.cell (i := 0) rfl 2 _ rfl
      have HCT := Lib.hid (And.intro CT4 (And.intro CTb CTc))
      clear CT4 CTb CTc
      go_region_law (first
        | (go_simp; go_at_call 69; (with_reducible refine Calls.mono HCT.out.1 ?_); rintro e w5 ⟨lo, ln, lc, rfl, hL5, hO5, hB5⟩; have HQ := Lib.hid ((H4.out.via hB5).rowNil 3 1); have CZ := zeros_any hL5 HMY.out.1; have CZ2 := zeros_any (hL5.via (abal w5 (.cells #[.slice none 0 0, .slice none 0 0] 45))) HMY.out.1; clear hB5 hL5 hO5)
        | (go_simp; go_at_call 69; (with_reducible refine Calls.mono HCT.out.2.1 ?_); rintro e w5 ⟨lo, ln, lc, rfl, hL5, hO5, hB5⟩; have HQ := Lib.hid (H4.out); have HQb := Lib.hid (Hb.out.via hB5); have CZ := zeros_any hL5 HMY.out.1; clear hB5 hL5 hO5)
        | (go_simp; go_at_call 69; (with_reducible refine Calls.mono HCT.out.2.2 ?_); rintro e w5 ⟨lo, ln, lc, rfl, hL5, hO5, hB5⟩; have HQ := Lib.hid (H4.out); have HQc := Lib.hid (Hc.out.via hB5); have CZ := zeros_any hL5 HMY.out.1; clear hB5 hL5 hO5)
        | (go_simp; go_at_call 61; (with_reducible refine Calls.mono CZ2 ?_); rintro e w6 ⟨Z, rfl, hZI, hZs, hZa, hZO, hB6⟩; simp only [Ar.v]; have HZ6 := Lib.hid (And.intro hZs hZa); have HR := Lib.hid ((HQ.out.alloc 45 2 1 #[.slice none 0 0, .slice none 0 0] rfl (by decide)).arrNew hZI hZO hB6); have x0 := HR.out.cell (i := 8) rfl 0 _ rfl; have x1 := HR.out.cell (i := 8) rfl 1 _ rfl; have x2 := HR.out.frozen (i := 8) rfl 0; have x3 := HR.out.frozen (i := 8) rfl 1; clear hZs hZa hZI hZO hB6)
        | (go_simp; go_at_call 61; (with_reducible refine Calls.mono CZ ?_); rintro e w6 ⟨Z, rfl, hZI, hZs, hZa, hZO, hB6⟩; simp only [Ar.v]; have HZ6 := Lib.hid (And.intro hZs hZa); have HR := Lib.hid (HQb.out.arrNew hZI hZO hB6); have x0 := HR.out.cell (i := 7) rfl 0 _ rfl; have x1 := HR.out.cell (i := 7) rfl 1 _ rfl; have x2 := HR.out.frozen (i := 7) rfl 0; have x3 := HR.out.frozen (i := 7) rfl 1; clear hZs hZa hZI hZO hB6)
        | (go_simp; go_at_call 61; (with_reducible refine Calls.mono CZ ?_); rintro e w6 ⟨Z, rfl, hZI, hZs, hZa, hZO, hB6⟩; simp only [Ar.v]; have HZ6 := Lib.hid (And.intro hZs hZa); have HR := Lib.hid (HQc.out.arrNew hZI hZO hB6); have x0 := HR.out.cell (i := 6) rfl 0 _ rfl; have x1 := HR.out.cell (i := 6) rfl 1 _ rfl; have x2 := HR.out.frozen (i := 6) rfl 0; have x3 := HR.out.frozen (i := 6) rfl 1; clear hZs hZa hZI hZO hB6)
        | (go_simp; go_at_call 61; (with_reducible refine Calls.mono CZ ?_); rintro e w6 ⟨Z, rfl, hZI, hZs, hZa, hZO, hB6⟩; simp only [Ar.v]; have HZ6 := Lib.hid (And.intro hZs hZa); have HR := Lib.hid (HQ.out.arrNew hZI hZO hB6); clear hZs hZa hZI hZO hB6))
      all_goals
        have HZ7 : Hid (Z.s = fr ++ c ∧ Z.a = List.replicate (N * M) 0) := ⟨HZ6.out.1, HZ6.out.2.trans (by rw [HNM.out])⟩
        go_wp2_with fail
        go_meet
        first
        | exact ⟨w6.heap.size, Z, rfl, HZ7.out.1, HZ7.out.2, ((HR.out.split (i := 8) rfl).alloc 45 2 1 #[.slice Z.sa Z.sn Z.sc, .slice Z.aa Z.an Z.ac] rfl (by decide)).pick [0, 1, 2, 3, 4, 5, 11, 9, 10] (by decide)⟩
        | exact ⟨w5.heap.size, Z, rfl, HZ7.out.1, HZ7.out.2, (((HR.out.split (i := 9) rfl).put (i := 8) rfl 0 (.slice Z.sa Z.sn Z.sc)).put (i := 8) rfl 1 (.slice Z.aa Z.an Z.ac)).pick [0, 1, 2, 3, 4, 5, 8, 10, 11] (by decide)⟩
        | exact ⟨W2.heap.size + 1, Z, rfl, HZ7.out.1, HZ7.out.2, (((HR.out.split (i := 8) rfl).put (i := 7) rfl 0 (.slice Z.sa Z.sn Z.sc)).put (i := 7) rfl 1 (.slice Z.aa Z.an Z.ac)).pick [0, 1, 2, 3, 4, 5, 7, 9, 10] (by decide)⟩
        | exact ⟨W2.heap.size, Z, rfl, HZ7.out.1, HZ7.out.2, (((HR.out.split (i := 8) rfl).put (i := 6) rfl 0 (.slice Z.sa Z.sn Z.sc)).put (i := 6) rfl 1 (.slice Z.aa Z.an Z.ac)).pick [0, 1, 2, 3, 4, 5, 6, 9, 10] (by decide)⟩
    case rest =>
      obtain ⟨ob, ⟨za, zn, zc, ta, T, TC, zs, zt⟩, rfl, HZ⟩ := hcut
      obtain ⟨U, hU⟩ : ∃ z : World, z = wc := ⟨_, rfl⟩
      subst hU
      obtain ⟨hzs, hzt, hz⟩ := HZ.out
      simp only at hzs hzt hz
      subst hzs hzt
      have hT : T = N * M := by have h := (hz.ls (i := 8) rfl).len; rw [List.length_replicate] at h; exact h.symm
      have hN0 : 0 < N := by have := HJK.out.2.1; rw [HPP.out] at this; omega
      obtain ⟨gob, rfl⟩ := (hz.rcap (i := 3) rfl).2.2.2.2 (by have := (hz.rcap (i := 3) rfl).1; omega)
      have C4 := Lib.hid (count4_any (hz.ls (i := 2) rfl) HMY.out.2.1)
      rw [HMY.out.2.2] at C4
      have y2 := hz.cell (i := 0) rfl 2 _ rfl
      have y3 := hz.cell (i := 0) rfl 3 _ rfl
      have hTC := (hz.ls (i := 8) rfl).cap
      have hTT := (hz.ls (i := 8) rfl).top
      have HZ0 : Hid (Sp F w U [Pt.row ⟨126, 4, some ⟨g, 0, none⟩, 1, 1, [.slice fo fn fc, .int .i64 P, .slice co cn cc, .slice (some ⟨gob, 0, none⟩) N gc]⟩, Pt.ints 3 fo fn fc fr, Pt.ints 3 co cn cc c, Pt.row ⟨45, 2, some ⟨gob, 0, none⟩, N, gc, cellsA As⟩, Pt.all (As.map Pt.arr), Pt.row ⟨45, 2, some ⟨w.heap.size, 0, none⟩, 1, 1, [.slice none 0 0, .slice none 0 0]⟩,
        Pt.row ⟨45, 2, some ⟨ob, 0, none⟩, 1, 1, [.slice za zn zc, .slice ta T TC]⟩, Pt.ints 3 za zn zc (fr ++ c), Pt.ints 2 ta T TC (dnR c G M 0 N)]) := by show Sp _ _ _ _; rw [dnR_zero]; exact hz
      have HTT := Lib.hid hT
      clear hz HZ hT
      unfold maxLen at hTT
      go_wp2_with fail
      refine C4.out.mono ?_; rintro e w7 ⟨rfl, hw⟩
      have hw' := hw.symm
      subst hw'
      go_wp2_with fail
      go_loopw [40] (fun v wr => ∃ i : Nat, i ≤ N ∧ v = .int .i64 i ∧ Hid (Sp F w wr [Pt.row ⟨126, 4, some ⟨g, 0, none⟩, 1, 1, [.slice fo fn fc, .int .i64 P, .slice co cn cc, .slice (some ⟨gob, 0, none⟩) N gc]⟩, Pt.ints 3 fo fn fc fr, Pt.ints 3 co cn cc c, Pt.row ⟨45, 2, some ⟨gob, 0, none⟩, N, gc, cellsA As⟩, Pt.all (As.map Pt.arr), Pt.row ⟨45, 2, some ⟨w.heap.size, 0, none⟩, 1, 1, [.slice none 0 0, .slice none 0 0]⟩,
        Pt.row ⟨45, 2, some ⟨ob, 0, none⟩, 1, 1, [.slice za zn zc, .slice ta T TC]⟩, Pt.ints 3 za zn zc (fr ++ c), Pt.ints 2 ta T TC (dnR c G M i N)])) (fun v _ => N - (RowKit.intOf v).toNat)
      case atStart => exact ⟨0, by omega, rfl, HZ0⟩
      case round =>
        obtain ⟨i, hi, rfl, HO⟩ := hrel
        by_cases hlt : i < N
        · have hAl : As.length = N := by have := congrArg List.length HJK.out.2.2.2; rw [List.length_map] at this; rw [this]; exact HN.out
          obtain ⟨⟨ea, en, ec, ba, bn, bc, s, a⟩, hAi⟩ : ∃ B, As[i]? = some B := ⟨As[i]'(by omega), List.getElem?_eq_getElem _⟩
          have hGi : G[i]? = some (s, a) := by rw [← HJK.out.2.2.2, List.getElem?_map, hAi]; rfl
          obtain ⟨k1, k2⟩ := cellsA_at hAi
          have e0 := HO.out.cell (i := 3) rfl _ _ k1
          have e1 := HO.out.cell (i := 3) rfl _ _ k2
          have H9_ := (HO.out.alloc 45 2 1 #[.slice ea en ec, .slice ba bn bc] rfl (by decide)).via (adrew1 _)
          try simp only [List.cons_append, List.nil_append, List.set_cons_zero, List.set_cons_succ, List.map_cons, List.map_nil, List.getD_cons_zero, List.getD_cons_succ, World.size_alloc] at H9_
          have H9 := Lib.hid H9_
          clear H9_
          obtain ⟨hma, hcov⟩ := HJK.out.2.2.1.all (s, a) (List.mem_of_getElem? hGi)
          obtain ⟨F8, hF8, hs8, ho8, hput⟩ := H9.out.hole (i := 8) rfl
          obtain ⟨G2, hG2, hd2⟩ := ho8 2 _ (by decide) rfl
          obtain ⟨G4, hG4, hd4⟩ := ho8 4 _ (by decide) rfl
          obtain ⟨p, HP⟩ : ∃ p, Hid (i * M = p) := ⟨_, rfl⟩
          have hpm : p + M ≤ T := by
            have h1 := Nat.mul_le_mul_right M (show i + 1 ≤ N by omega)
            rw [Nat.succ_mul, HP.out, ← HTT.out] at h1
            exact h1
          simp only at e0 e1 hma hcov
          obtain ⟨Fs4, q1, q2, q3, q4⟩ := hG4
          have hqa := q1 i (Pt.arr ⟨ea, en, ec, ba, bn, bc, s, a⟩) (by rw [List.getElem?_map, hAi]; rfl)
          obtain ⟨hAI, hAO, hAF⟩ := Pt.arr_own hqa
          have hof : Ar.Off ⟨ea, en, ec, ba, bn, bc, s, a⟩ F8 := ⟨fun _ k hk => hd4 k ((q4 k).2 ⟨i, (hAF k).2 (.inl hk)⟩), fun _ k hk => hd4 k ((q4 k).2 ⟨i, (hAF k).2 (.inr hk)⟩)⟩
          have hcf : 0 < cn → ∀ k, (Value.slice co cn cc).ownBlock = some k → ¬ F8 k := fun _ k hk => hd2 k ((hG2.2.2 k).2 hk)
          have hnM : M = (pr c).toNat := by rw [HMY.out.2.2]; rfl
          have hstep := dnR_step (s := s) (a := a) hnM HN.out hlt hGi
          have hzer := dnR_zeros hnM HN.out hlt
          rw [HP.out] at hstep hzer
          have hrc := (H9.out.toRow (i := 8) rfl).rcap (i := 8) rfl
          have LAYC : Hid (∀ (tao : Option Addr) (tc : Nat), (0 < M → ∃ g, ta = some ⟨g, 0, none⟩ ∧ tao = some ⟨g, p, none⟩) → M ≤ tc → Calls Try.prog 70 #[.slice tao M tc, .slice co cn cc, .agg #[.slice ea en ec, .slice ba bn bc]] (wr.alloc (.cells #[.slice ea en ec, .slice ba bn bc] 45)).drew
              (LayP F8 (wr.alloc (.cells #[.slice ea en ec, .slice ba bn bc] 45)).drew ta T TC (dnR c G M (i + 1) N))) := fun tao tc h1 h2 => by
            have h := lay_any hF8 h1 hpm h2 (H9.out.ls (i := 2) rfl) hcf hAI hof HMY.out.2.1 hma hcov hnM hzer
            rw [hstep] at h
            exact h
          have hpi : (i : Int) * M = p := by rw [← HP.out]; push_cast; rfl
          have hpj : ((i : Int) + 1) * M = p + M := by rw [Int.add_mul, hpi, Int.one_mul]
          have hbg := (H9.out.ipure (i := 8) rfl).1
          have z6 : IntKind.i64.wrap ((i : Int) * M) = p := by rw [hpi]; exact IntWalk.i64_in _ (by omega)
          have z7 : IntKind.i64.wrap (((i : Int) + 1) * M) = p + M := by rw [hpj]; exact IntWalk.i64_in _ (by omega)
          have z11 : IntKind.i64.wrap ((i : Int) + 1) = i + 1 := IntWalk.i64_in _ (by omega)
          have d0 := H9.out.cell (i := 6) rfl 1 _ rfl
          have d1 := H9.out.cell (i := 0) rfl 2 _ rfl
          have d2 := H9.out.cell (i := 9) rfl 0 _ rfl
          have d3 := H9.out.cell (i := 9) rfl 1 _ rfl
          have hlt' : (i : Int) < N := by omega
          have HPUT : Hid (∀ (w' : World) (F' : Nat → Prop), (Pt.ints 2 ta T TC (dnR c G M (i + 1) N)).P w' F' → (∀ k, F' k → F8 k ∨ (wr.alloc (.cells #[.slice ea en ec, .slice ba bn bc] 45)).drew.heap.size ≤ k) → Out F8 (wr.alloc (.cells #[.slice ea en ec, .slice ba bn bc] 45)).drew w' →
            Sp F w w' [Pt.row ⟨126, 4, some ⟨g, 0, none⟩, 1, 1, [.slice fo fn fc, .int .i64 P, .slice co cn cc, .slice (some ⟨gob, 0, none⟩) N gc]⟩, Pt.ints 3 fo fn fc fr, Pt.ints 3 co cn cc c, Pt.row ⟨45, 2, some ⟨gob, 0, none⟩, N, gc, cellsA As⟩, Pt.all (As.map Pt.arr), Pt.row ⟨45, 2, some ⟨w.heap.size, 0, none⟩, 1, 1, [.slice none 0 0, .slice none 0 0]⟩,
            Pt.row ⟨45, 2, some ⟨ob, 0, none⟩, 1, 1, [.slice za zn zc, .slice ta T TC]⟩, Pt.ints 3 za zn zc (fr ++ c), Pt.ints 2 ta T TC (dnR c G M (i + 1) N)]) := fun w' F' h1 h2 h3 => (hput w' _ F' h1 h2 h3).pick [0, 1, 2, 3, 4, 5, 6, 7, 8] (by decide)
          have HRC := Lib.hid hrc
          clear hput hF8 hs8 ho8 hG2 hd2 hd4 q1 q2 q3 q4 hqa hAI hAO hAF hof hcf hnM hstep hzer hpi hpj hbg hrc hma hcov hAl hAi hGi k1 k2
          by_cases hpc : TC = p
          · subst hpc
            obtain rfl : M = 0 := by omega
            have hp0 : TC = 0 := by rw [← HP.out, Nat.mul_zero]
            subst hp0
            have z12 : IntKind.i64.wrap (0 : Int) = 0 := IntWalk.i64_in _ (by omega)
            have L1 := LAYC.out ta 0 (fun h => absurd h (by omega)) (Nat.le_refl _)
            have HL1 := Lib.hid L1
            clear L1 LAYC
            go_upto_block 1 with fail
            go_cut [6, 7] from 42 to 60 (fun (u v : Value) (wx : World) => Hid (Sp F w wx [Pt.row ⟨126, 4, some ⟨g, 0, none⟩, 1, 1, [.slice fo fn fc, .int .i64 P, .slice co cn cc, .slice (some ⟨gob, 0, none⟩) N gc]⟩, Pt.ints 3 fo fn fc fr, Pt.ints 3 co cn cc c, Pt.row ⟨45, 2, some ⟨gob, 0, none⟩, N, gc, cellsA As⟩, Pt.all (As.map Pt.arr), Pt.row ⟨45, 2, some ⟨w.heap.size, 0, none⟩, 1, 1, [.slice none 0 0, .slice none 0 0]⟩,
            Pt.row ⟨45, 2, some ⟨ob, 0, none⟩, 1, 1, [.slice za zn zc, .slice ta T 0]⟩, Pt.ints 3 za zn zc (fr ++ c), Pt.ints 2 ta T 0 (dnR c G 0 (i + 1) N)]))
            case first =>
              go_upto_region 8 with fail
              go_region_law (first
                | (go_simp; go_at_call 70; refine HL1.out.mono ?_; rintro e w8 ⟨⟨vv, rfl⟩, F', hF', hs', ho'⟩; have HQ := Lib.hid (HPUT.out w8 F' hF' hs' ho'); clear hF' hs' ho'))
              all_goals go_wp2_with fail
              all_goals go_meet
              all_goals exact HQ
            case rest =>
              obtain ⟨U3, hU3⟩ : ∃ z : World, z = wc := ⟨_, rfl⟩
              subst hU3
              clear d0 d1 d2 d3 e0 e1 HPUT HL1
              go_wp2
              go_roundw
              case rel => exact ⟨i + 1, by omega, by go_num, hcut⟩
              case measure => simp [RowKit.intOf]; omega
          · have z1 : (0 : Int) ≤ p := by omega
            have z2 : (p : Int) ≤ p + M := by omega
            have z3 : (p : Int) + M ≤ TC := by omega
            have z5 : ((p : Int) + M).toNat = p + M := by omega
            have z8 : (p : Int) < TC := by omega
            have z9 : ¬ TC - p = 0 := by omega
            have z10 : p + M - p = M := by omega
            have L1 := LAYC.out (ta.map fun x => x.add p) (TC - p) (fun h => by obtain ⟨q, hq⟩ := HRC.out.2.2.2.2 (by omega); exact ⟨q, hq, by rw [hq]; simp [Addr.add_lit]⟩) (by omega)
            have HL1 := Lib.hid L1
            clear L1 LAYC
            go_upto_block 1 with fail
            go_cut [6, 7] from 42 to 60 (fun (u v : Value) (wx : World) => Hid (Sp F w wx [Pt.row ⟨126, 4, some ⟨g, 0, none⟩, 1, 1, [.slice fo fn fc, .int .i64 P, .slice co cn cc, .slice (some ⟨gob, 0, none⟩) N gc]⟩, Pt.ints 3 fo fn fc fr, Pt.ints 3 co cn cc c, Pt.row ⟨45, 2, some ⟨gob, 0, none⟩, N, gc, cellsA As⟩, Pt.all (As.map Pt.arr), Pt.row ⟨45, 2, some ⟨w.heap.size, 0, none⟩, 1, 1, [.slice none 0 0, .slice none 0 0]⟩,
            Pt.row ⟨45, 2, some ⟨ob, 0, none⟩, 1, 1, [.slice za zn zc, .slice ta T TC]⟩, Pt.ints 3 za zn zc (fr ++ c), Pt.ints 2 ta T TC (dnR c G M (i + 1) N)]))
            case first =>
              go_upto_region 8 with fail
              go_region_law (first
                | (go_simp; go_at_call 70; refine HL1.out.mono ?_; rintro e w8 ⟨⟨vv, rfl⟩, F', hF', hs', ho'⟩; have HQ := Lib.hid (HPUT.out w8 F' hF' hs' ho'); clear hF' hs' ho'))
              all_goals go_wp2_with fail
              all_goals go_meet
              all_goals exact HQ
            case rest =>
              obtain ⟨U3, hU3⟩ : ∃ z : World, z = wc := ⟨_, rfl⟩
              subst hU3
              clear d0 d1 d2 d3 e0 e1 HPUT HL1
              go_wp2
              go_roundw
              case rel => exact ⟨i + 1, by omega, by go_num, hcut⟩
              case measure => simp [RowKit.intOf]; omega
        · have hge : ¬ ((i : Int) < N) := by omega
          obtain rfl : i = N := by omega
          have x0 := HO.out.cell (i := 6) rfl 0 _ rfl
          have x1 := HO.out.cell (i := 6) rfl 1 _ rfl
          have x4 := HO.out.cell (i := 5) rfl 0 _ rfl
          have x5 := HO.out.cell (i := 5) rfl 1 _ rfl
          have f0 := HO.out.frozen (i := 5) rfl 0
          have f1 := HO.out.frozen (i := 5) rfl 1
          have HF : Hid (DoneP F w g fr c G RS RA 0 (.returned (.tuple #[.agg #[.slice za zn zc, .slice ta T TC], .int .i64 0])) ((wr.setCell ⟨w.heap.size, 0, none⟩ (.slice za zn zc)).setCell ⟨w.heap.size, 1, none⟩ (.slice ta T TC))) := by
            have h := (((HO.out.put (i := 5) rfl 0 (.slice za zn zc)).put (i := 5) rfl 1 (.slice ta T TC)).arrOf (i := 7) (j := 8) rfl (by decide) rfl).pick [0, 1, 2, 3, 4, 8] (by decide)
            have h2 := HEND.out _ ⟨za, zn, zc, ta, T, TC, fr ++ c, dnR c G M i i⟩ 0 h
            have e : dnR c G M i i = RA := by rw [HRA2.out, ← HN.out]; exact dnR_end _ _ _
            rw [HRS2.out, ← e]
            exact h2
          clear HO
          go_wp2
          exact bodyPost_ret (v := .tuple #[.agg #[.slice za zn zc, .slice ta T TC], .int .i64 0]) (by simp [results, Try.results27, go_sem, *]) rfl HF.out
end Go.Proofs.Ythackmkdicpdeaa

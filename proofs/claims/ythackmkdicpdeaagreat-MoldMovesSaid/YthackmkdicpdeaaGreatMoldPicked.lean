/- Contract of mold.picked, over what is known of the function that it is handed. -/
import Derived.Test.YthackmkdicpdeaaGreatMoldSmall
import Derived.Deep.RegionLaw
import Derived.Sort.CutIn
namespace Go.Proofs.YthackmkdicpdeaaGreat
open Go.RowKit Go.Lib Go.Shelf
set_option linter.unusedVariables false
set_option linter.unusedSimpArgs false
attribute [local go_sem] alloc_drewN setCell_drewN
attribute [local go_sem] Oper.semAt_some
theorem Sp.rebase2 {F0 : Nat → Prop} {w0 w : World} {L : List Pt} (H : Sp F0 w0 w L) : ∃ F, (∀ k, F k → F0 k ∨ w0.heap.size ≤ k) ∧ Sp F w w L ∧ ∀ (w' : World) (M : List Pt), Sp F w w' M → Sp F0 w0 w' M ∧ KeepsOthers w w' := by
  obtain ⟨F, hF, hFs⟩ := H.all
  refine ⟨F, hFs, Sp.of_all (Out.refl _ _) hF (fun k h => .inl h), fun w' M h => ⟨?_, ?_⟩⟩
  · obtain ⟨F', h1, h2⟩ := h.all
    have hs := H.out.size
    refine Sp.of_all (H.out.trans h.out fun k hk hf => ?_) h1 fun k hk => ?_
    · rcases hFs k hf with h | h
      · exact h
      · omega
    · rcases h2 k hk with h | h
      · exact hFs k h
      · right; omega
  · refine ⟨h.out.size, fun k o hk ho => ?_⟩
    have hlt := (Array.getElem?_eq_some_iff.1 hk).1
    refine (h.out.block k hlt fun hf => ?_).trans hk
    obtain ⟨o', ho', hc⟩ := (Pt.all L).cl w F k hF hf
    rw [hk] at ho'
    cases ho'
    rw [ho] at hc
    cases hc
theorem ls_lit6 (w : World) (T : TypeId) {x : Int} (hx : -9223372036854775808 ≤ x ∧ x ≤ 9223372036854775807) : Ls (w.alloc (.cells #[.int .i64 x] T)) (some ⟨w.heap.size, 0, none⟩) 1 1 [x] :=
  ⟨rfl, Nat.le_refl _, by omega, by decide, fun _ => ⟨w.heap.size, 0, rfl, by simp, fun i hi => by
    obtain rfl : i = 0 := by omega
    simp [go_sem]⟩, rng_one hx⟩
/-- The atom at a place, 0 below. -/
def pkAt (a : List Int) (p : Int) : Int := if 0 ≤ p then a.getD p.toNat 0 else 0
def pkAs (a : List Int) (f : Nat → Int) (k : Nat) : List Int := (List.range k).map fun i => pkAt a (f i)
def pkA (s a : List Int) (f : Nat → Int) : List Int := if mayE s = 0 then pkAs a f (pr s).toNat else []
/-- A result that grows. -/
def PB (b8 : Nat) (so : Option Addr) (n c : Nat) (a : List Int) : Pt := Pt.ex fun x : Option Addr × Nat => Pt.all [Pt.row ⟨38, 2, some ⟨b8, 0, none⟩, 1, 1, [.slice so n c, .slice x.1 a.length x.2]⟩, Pt.ints 2 x.1 a.length x.2 a]
def pkL (u v fv : Value) (b1 b8 bn bs : Nat) (qo : Option Addr) (qn qc : Nat) (ko : Option Addr) (kn kc : Nat) (s a : List Int) (f : Nat → Int) (k : Nat) : List Pt :=
  seqL bn bs qo qn qc s ++ [Pt.row ⟨38, 2, some ⟨b1, 0, none⟩, 1, 1, [u, v]⟩, Pt.row ⟨101, 1, some ⟨b1 + 1, 0, none⟩, 1, 1, [fv]⟩, Pt.row ⟨38, 2, some ⟨b1 + 1 + 1, 0, none⟩, 1, 1, [.slice none 0 0, .slice none 0 0]⟩, Pt.ints 3 ko kn kc s, PB b8 ko kn kc (pkAs a f k)]
set_option maxRecDepth 100000 in
set_option maxHeartbeats 3200000 in
theorem picked_any {w : World} {so : Option Addr} {sn sc : Nat} {s : List Int} (hs : Ls w so sn sc s) {Y : Ar} (hY : Y.Is w) {ff : Nat} {caps : Array Value} (eg : ∀ args w, (callFunc ff args).run Tryz.prog w = .ok (.enter ff args) w) (f : Nat → Int)
    (hfb : ∀ k : Nat, (k : Int) < pr s → f k < Y.an ∧ -1 ≤ f k)
    (hC : mayE s = 0 → ∀ (W : World) (F : Nat → Prop) (xo : Option Addr) (xn xc : Nat) (k : Nat), (k : Int) < pr s → Below w.heap.size w W → (∀ g, F g → w.heap.size ≤ g) → (Pt.ints 3 xo xn xc (ixL s k)).P W F → Calls Tryz.prog ff (#[.slice xo xn xc] ++ caps) W (fun e W' => e = .returned (.int .i64 (f k)) ∧ Out F W W')) :
    Calls Tryz.prog 145 #[.slice so sn sc, Y.v, .func (.func ff) #[] caps] w (MadeE w (mdS s) (pkA s Y.a f) (mdE s)) := by
  obtain ⟨ta, tn, tc, ba, bn', bc, t, b⟩ := Y
  simp only [Ar.v]
  simp only at hfb
  obtain ⟨W, HW⟩ : ∃ z, Hid (((w.alloc (.cells #[.slice ta tn tc, .slice ba bn' bc] 38)).alloc (.cells #[.func (.func ff) #[] caps] 101)).alloc (.cells #[.slice none 0 0, .slice none 0 0] 38) = z) := ⟨_, rfl⟩
  have h0 := (((Sp.start Non w).alloc 38 2 1 #[.slice ta tn tc, .slice ba bn' bc] rfl (by decide)).alloc 101 1 1 #[.func (.func ff) #[] caps] rfl (by decide)).alloc 38 2 1 #[.slice none 0 0, .slice none 0 0] rfl (by decide)
  rw [HW.out] at h0
  have H1_ := h0
  try simp only [List.cons_append, List.nil_append, List.set_cons_zero, List.set_cons_succ, List.map_cons, List.map_nil, List.getD_cons_zero, List.getD_cons_succ, World.size_alloc] at H1_
  have H1 := Lib.hid H1_
  clear H1_
  obtain ⟨b1, HB1⟩ : ∃ z, Hid (w.heap.size = z) := ⟨_, rfl⟩
  rw [HB1.out] at H1
  have HSL := Lib.hid hs
  have HYI := Lib.hid hY
  have CM := Lib.hid (may_any (hs.below H1.out.belowN (Nat.le_refl _)))
  have hsl : s.length = sn := hs.len
  clear h0
  by_cases hm : mayE s = 0
  · rw [show mdE s = 0 from if_pos hm, show mdS s = s from if_pos hm, show pkA s b f = pkAs b f (pr s).toNat from if_pos hm]
    rw [hm] at CM
    obtain ⟨N, hN⟩ : ∃ N : Nat, pr s = N := ⟨(pr s).toNat, by have := pr_nonneg hm; omega⟩
    have hNb : N ≤ 4096 := by have := pr_nonneg hm; omega
    rw [hN, Int.toNat_natCast]
    have HSZ : Hid (szE s = N) := by show _ = _; unfold szE; rw [if_pos hm, hN]
    have HM := Lib.hid (And.intro hm hN)
    have HCC := Lib.hid (hC hm)
    have HFB := Lib.hid hfb
    have C1 := Lib.hid (clone_any (hs.below H1.out.belowN (Nat.le_refl _)))
    clear hs hY hC hfb hm hN
    refine calls_marks Tryz.func145 rfl ?_
    simp only [Tryz.ntmps145, List.size_toArray, List.length_cons, List.length_nil, Nat.reduceAdd, Nat.reduceSub, Array.replicate_succ, Array.replicate_zero, List.push_toArray, List.append_toArray, List.nil_append, List.cons_append]
    go_upto_region 1 with fail
    rw [HW.out, HB1.out]
    go_wp2_with fail
    refine CM.out.mono ?_; rintro e w' ⟨rfl, hw'⟩
    have hw'' := hw'.symm
    subst hw''
    clear hw' CM
    go_wp2_with fail
    refine C1.out.mono ?_; rintro e w2 ⟨ko, kc, rfl, hL, hO, hB⟩
    have H5_ := ((H1.out.intsNew hO hB hL.big hL.rng).alloc 38 2 1 #[.slice ko sn kc, .slice none 0 0] rfl (by decide)).intsNew (E := 2) (zs := []) (World.ownsRow_nil _ _ _ _) (Below.refl _ _) (by omega) (fun i => by simp [List.getD])
    try simp only [List.cons_append, List.nil_append, List.set_cons_zero, List.set_cons_succ, List.map_cons, List.map_nil, List.getD_cons_zero, List.getD_cons_succ, World.size_alloc] at H5_
    have H5 := Lib.hid H5_
    clear H5_
    obtain ⟨b8, HB8⟩ : ∃ z, Hid (w2.heap.size = z) := ⟨_, rfl⟩
    rw [HB8.out] at H5
    have CA := Lib.hid (all_sp (HSL.out.below H5.out.belowN (Nat.le_refl _)))
    clear hL hO hB C1 H1
    go_wp2_with fail
    refine CA.out.mono ?_; rintro e w9 ⟨bn, bs, qo, qn, qc, rfl, hq⟩
    have h9 := (((H5.out.add hq).pick [6, 7, 8, 0, 1, 2, 3, 4, 5] (by decide)).pair (i := 7) (j := 8) rfl (by decide) rfl)
    have h10 := (h9.sub (i := 7) rfl (PB b8 ko sn kc []) (fun F hF => ⟨(none, 0), hF⟩)).pick [0, 1, 2, 3, 4, 5, 6, 7] (by decide)
    have HI0 : Hid (Sp Non w w9 (pkL (.slice ta tn tc) (.slice ba bn' bc) (.func (.func ff) #[] caps) b1 b8 bn bs qo qn qc ko sn kc s b f 0)) := h10
    have HW9 : Hid (w.heap.size ≤ w9.heap.size) := HI0.out.out.size
    clear h9 h10 hq CA H5
    rw [HB8.out]
    simp only [seqV]
    go_wp2_with fail
    refine (wpIn_wide (n := 6)).1 ?_
    refine wpIn_range_seq2 (n := 6) (by omega) (gf := 159) (lb := #[.pointer (some ⟨bn, 0, none⟩), .pointer (some ⟨bs, 0, none⟩)]) rfl (enters_of Tryz.func159 (by kernel_rfl) rfl) rndV (fun _ => rfl) (RndOwn Non w (pkL (.slice ta tn tc) (.slice ba bn' bc) (.func (.func ff) #[] caps) b1 b8 bn bs qo qn qc ko sn kc s b f) s) N (fun j V => Sp Non w V (pkL (.slice ta tn tc) (.slice ba bn' bc) (.func (.func ff) #[] caps) b1 b8 bn bs qo qn qc ko sn kc s b f j))
      (fun j V => Sp Non w V (pkL (.slice ta tn tc) (.slice ba bn' bc) (.func (.func ff) #[] caps) b1 b8 bn bs qo qn qc ko sn kc s b f j)) (fun _ _ => False)
      (fun j => sp_bears HW9.out) (fun c W W' row h _ _ => h) (fun j x => rndOwn_bears HW9.out) (fun j W h => h) HI0.out
      (fun l J Jx W hK hJ hY h0 => allseq_sp HSZ.out (pkL (.slice ta tn tc) (.slice ba bn' bc) (.func (.func ff) #[] caps) b1 b8 bn bs qo qn qc ko sn kc s b f) (fun _ => rfl) 5 l (by omega) J Jx W hK hJ hY h0) ?a1 ?assign ?body ?done ?stop
    case assign =>
      intro l x W K hK
      simp [rndV]
      gi_wp2
      exact hK
    case body =>
      intro l j x V hkN hI hx
      obtain ⟨x1, xo, xn, xc⟩ := x
      obtain ⟨hx1, hx2⟩ := hx
      simp only at hx1 hx2
      have hx1' := hx1.symm
      subst hx1'
      have hjp : (j : Int) < pr s := by rw [HM.out.2]; omega
      obtain ⟨hfj, hfj2⟩ := HFB.out j hjp
      have hNS := HYI.out.below hx2.belowN (Nat.le_refl _)
      have hBV := hx2.belowN
      obtain ⟨F, hFs, hF, hback⟩ := hx2.rebase2
      obtain ⟨⟨yo, yc⟩, hF2⟩ := hF.ex (i := 7) rfl
      have hF3 := hF2.split (i := 7) rfl
      simp only [pkL, seqL] at hF3
      have HS_ := hF3
      try simp only [List.cons_append, List.nil_append, List.set_cons_zero, List.set_cons_succ, List.map_cons, List.map_nil, List.getD_cons_zero, List.getD_cons_succ, World.size_alloc] at HS_
      have HS := Lib.hid HS_
      clear HS_
      obtain ⟨F8, hP8, hF8, -, hput⟩ := HS.out.hole (i := 8) rfl
      have CF0 := HCC.out V F8 xo xn xc j hjp hBV (fun g hg => by
        rcases hF8 g hg with h | h
        · exact (hFs g h).elim (fun h => h.elim) id
        · exact Nat.le_trans hBV.size h) hP8
      have HPUT := Lib.hid (fun (w' : World) (ho : Out F8 V w') => hput w' Pt.nil (fun _ => False) (fun k h => h) (fun k h => h.elim) ho)
      have u0 := HS.out.cell (i := 4) rfl 0 _ rfl
      have HBK := Lib.hid hback
      have HPL : Hid ((pkAs b f j).length = j) := by show _ = _; simp [pkAs]
      have HPC : Hid (pkAs b f (j + 1) = pkAs b f j ++ [pkAt b (f j)]) := by show _ = _; unfold pkAs; rw [List.range_succ, List.map_append, List.map_singleton]
      obtain ⟨fj, HFJ⟩ : ∃ z, Hid (f j = z) := ⟨_, rfl⟩
      rw [HFJ.out] at CF0 HPC hfj hfj2
      have CF := Lib.hid CF0
      obtain ⟨i0, hi0, hza, hzb, hzc⟩ := info_parts (P := Tryz.prog) (e := 2) (z := .int .i64 0) (size := 1) (bytes := 8) (by kernel_rfl)
      have hb1 : ((pkAs b f j).length + 1) * 8 ≤ 140737488351232 := by rw [HPL.out]; omega
      clear hx1 hx2 hI hF hF2 hF3 hFs hback hNS hP8 hF8 hput hBV hjp CF0 HFJ
      gi_wp2_with fail
      refine ⟨trivial, (CallsIn.inRound l (callsIn_wide.2 CF.out)).mono ?_⟩; rintro e' v1 ⟨rfl, ho⟩
      have H8 : Hid (Sp F V v1 [Pt.row ⟨3, 1, some ⟨bn, 0, none⟩, 1, 1, [.int .i64 (szE s)]⟩, Pt.ints 3 qo qn qc s, Pt.row ⟨25, 1, some ⟨bs, 0, none⟩, 1, 1, [.slice qo qn qc]⟩, Pt.row ⟨38, 2, some ⟨b1, 0, none⟩, 1, 1, [.slice ta tn tc, .slice ba bn' bc]⟩, Pt.row ⟨101, 1, some ⟨b1 + 1, 0, none⟩, 1, 1, [.func (.func ff) #[] caps]⟩, Pt.row ⟨38, 2, some ⟨b1 + 1 + 1, 0, none⟩, 1, 1, [.slice none 0 0, .slice none 0 0]⟩, Pt.ints 3 ko sn kc s, Pt.nil, Pt.nil, Pt.row ⟨38, 2, some ⟨b8, 0, none⟩, 1, 1, [.slice ko sn kc, .slice yo (pkAs b f j).length yc]⟩, Pt.ints 2 yo (pkAs b f j).length yc (pkAs b f j)]) := HPUT.out v1 ho
      have hW := (HBK.out v1 _ H8.out).1.belowN
      have HY8 := HYI.out.below hW (Nat.le_refl _)
      have hyl := HY8.ats.len
      have hyr := HY8.ats.rng
      have hHF : ∃ x : Int, Hid (pkAt b fj = x) ∧ (-9223372036854775808 ≤ x ∧ x ≤ 9223372036854775807) := ⟨_, rfl, by unfold pkAt; split; exact hyr _; omega⟩
      obtain ⟨x, HX, hxr⟩ := hHF
      rw [HX.out] at HPC
      have HFIN : Hid (∀ (w9 : World) (b9 : Option Addr) (d9 : Nat), Sp F V w9 [Pt.row ⟨3, 1, some ⟨bn, 0, none⟩, 1, 1, [.int .i64 (szE s)]⟩, Pt.ints 3 qo qn qc s, Pt.row ⟨25, 1, some ⟨bs, 0, none⟩, 1, 1, [.slice qo qn qc]⟩, Pt.row ⟨38, 2, some ⟨b1, 0, none⟩, 1, 1, [.slice ta tn tc, .slice ba bn' bc]⟩, Pt.row ⟨101, 1, some ⟨b1 + 1, 0, none⟩, 1, 1, [.func (.func ff) #[] caps]⟩, Pt.row ⟨38, 2, some ⟨b1 + 1 + 1, 0, none⟩, 1, 1, [.slice none 0 0, .slice none 0 0]⟩, Pt.ints 3 ko sn kc s, Pt.nil, Pt.nil, Pt.row ⟨38, 2, some ⟨b8, 0, none⟩, 1, 1, [.slice ko sn kc, .slice yo (pkAs b f j).length yc]⟩, Pt.ints 2 b9 ((pkAs b f j).length + 1) d9 (pkAs b f j ++ [x])] → KeepsOthers V (w9.setCell ⟨b8, 1, none⟩ (.slice b9 ((pkAs b f j).length + 1) d9)) ∧ Sp Non w (w9.setCell ⟨b8, 1, none⟩ (.slice b9 ((pkAs b f j).length + 1) d9)) (pkL (.slice ta tn tc) (.slice ba bn' bc) (.func (.func ff) #[] caps) b1 b8 bn bs qo qn qc ko sn kc s b f (j + 1))) := by
        intro w9 b9 d9 h9
        have h10 := (h9.put (i := 9) rfl 1 (.slice b9 ((pkAs b f j).length + 1) d9)).pair (i := 9) (j := 10) rfl (by decide) rfl
        have h11 := (h10.sub (i := 9) rfl (PB b8 ko sn kc (pkAs b f (j + 1))) (fun F hF => ⟨(b9, d9), by rw [HPC.out, List.length_append]; exact hF⟩)).pick [0, 1, 2, 3, 4, 5, 6, 9] (by decide)
        obtain ⟨k1, k2⟩ := HBK.out _ _ h11
        exact ⟨k2, k1⟩
      have HV := Lib.hid (H8.out.via (abal v1 (.cells #[.int .i64 x] 2)))
      have y1 := H8.out.cell (i := 9) rfl 1 _ rfl
      have y3 := H8.out.cell (i := 3) rfl 1 _ rfl
      have hlb := (H8.out.rlt (i := 9) rfl).1
      have n1 : ¬ v1.heap.size = b8 := by omega
      have n2 : ¬ b8 = v1.heap.size := by omega
      rcases (show fj = -1 ∨ ∃ p : Nat, fj = p by rcases (show fj = -1 ∨ 0 ≤ fj by omega) with h | h; exact .inl h; exact .inr ⟨fj.toNat, (Int.toNat_of_nonneg h).symm⟩) with rfl | ⟨p, rfl⟩
      · obtain rfl : x = 0 := by rw [← HX.out]; rfl
        clear hW HY8 hyl hyr HX HPC HBK HPUT CF ho H8
        gi_upto_region 10 with fail
        refine in_list (by kernel_rfl) ?_
        go_wp2_with (at_builtin; refine Sp.wpList_loc (i := 10) HV.out rfl _ _ 28 rfl 2 i0 Tryz.underlying28 hi0 hza hzb hzc rfl rfl rfl (ls_lit6 v1 _ (by omega)) hb1 ?_)
        intro b9 d9 w9' h9
        have q1 := h9.cell (i := 9) rfl 1 _ rfl
        have q2 := h9.frozen (i := 9) rfl 1
        have HFF := Lib.hid (HFIN.out w9' b9 d9 h9)
        clear h9 HFIN HV
        go_wp2
        refine OnlyN.mk ?_
        (try simp only [Exit.inBlock, Exit.then])
        exact HFF.out
      · have hpl : p < bn' := by omega
        obtain ⟨g2, o2, e2, hc2⟩ := HY8.ats.at (by simp only; omega)
        have d1 := hc2 p hpl
        simp only at e2
        subst e2
        have ex : b.getD p 0 = x := by rw [← HX.out]; unfold pkAt; rw [if_pos (Int.natCast_nonneg p), Int.toNat_natCast]
        rw [ex] at d1
        have hpi : (p : Int) < bn' := by omega
        have hp0 : (0 : Int) ≤ p := by omega
        clear ex hc2
        clear hW HY8 hyl hyr HX HPC HBK HPUT CF ho H8
        gi_upto_region 10 with fail
        refine in_list (by kernel_rfl) ?_
        go_wp2_with (at_builtin; refine Sp.wpList_loc (i := 10) HV.out rfl _ _ 28 rfl 2 i0 Tryz.underlying28 hi0 hza hzb hzc rfl rfl rfl (ls_lit6 v1 _ (by omega)) hb1 ?_)
        intro b9 d9 w9' h9
        have q1 := h9.cell (i := 9) rfl 1 _ rfl
        have q2 := h9.frozen (i := 9) rfl 1
        have HFF := Lib.hid (HFIN.out w9' b9 d9 h9)
        clear h9 HFIN HV
        go_wp2
        refine OnlyN.mk ?_
        (try simp only [Exit.inBlock, Exit.then])
        exact HFF.out
    case done =>
      rintro D V hD hI hKD
      obtain ⟨⟨yo, yc⟩, hF2⟩ := hI.ex (i := 7) rfl
      have hF3 := hF2.split (i := 7) rfl
      simp only [pkL, seqL] at hF3
      have hpl : (pkAs b f N).length = N := by simp [pkAs]
      simp only [hpl] at hF3
      have h7 := hF3.arrOf (i := 6) (j := 9) rfl (by decide) rfl
      have H7_ := h7
      try simp only [List.cons_append, List.nil_append, List.set_cons_zero, List.set_cons_succ, List.map_cons, List.map_nil, List.getD_cons_zero, List.getD_cons_succ, World.size_alloc] at H7_
      have H7 := Lib.hid H7_
      clear H7_
      have x2 := H7.out.cell (i := 5) rfl 0 _ rfl
      have x3 := H7.out.cell (i := 5) rfl 1 _ rfl
      have y0 := H7.out.cell (i := 8) rfl 0 _ rfl
      have y1 := H7.out.cell (i := 8) rfl 1 _ rfl
      have f2 := H7.out.frozen (i := 5) rfl 0
      have f3 := H7.out.frozen (i := 5) rfl 1
      have HKD := Lib.hid hKD
      clear hI hF2 hF3 h7 hKD hpl HI0
      go_wp2
      have hX := (H7.out.put (i := 5) rfl 0 (.slice ko sn kc)).put (i := 5) rfl 1 (.slice yo N yc)
      have hK' := ((KeepsOthers.setCell V ⟨b1 + 1 + 1, 0, none⟩ (.slice ko sn kc)).trans (KeepsOthers.setCell _ ⟨b1 + 1 + 1, 1, none⟩ (.slice yo N yc))).same D _ HKD.out rfl
      have hfin := sp_bears HW9.out _ _ (some D) hX (grownBy_putObj' _ D (.deferred none)) (fun r e => by cases e; exact ⟨hD, _, hK', rfl⟩)
      have hc4 := hfin.cell (i := 5) rfl 0 _ rfl
      have hc5 := hfin.cell (i := 5) rfl 1 _ rfl
      have HF := Lib.hid (hfin.madeE (i := 9) (B := ⟨ko, sn, kc, yo, N, yc, s, pkAs b f N⟩) rfl 0)
      clear hX hfin
      exact marks_ret1 (v := .tuple #[.agg #[.slice ko sn kc, .slice yo N yc], .int .i64 0]) rfl hK' (by simp [results, Tryz.f145, go_sem, hc4, hc5]) HF.out
    case stop =>
      rintro D c W _ h _
      exact h.elim
  · rw [show mdE s = 17 from if_neg hm, show mdS s = [] from if_neg hm, show pkA s b f = [] from if_neg hm]
    obtain ⟨e, he⟩ : ∃ z, z = mayE s := ⟨_, rfl⟩
    rw [← he] at CM hm
    have q0 : (e != 0) = true := by simpa using hm
    have x2 := H1.out.cell (i := 2) rfl 0 _ rfl
    have x3 := H1.out.cell (i := 2) rfl 1 _ rfl
    have f2 := H1.out.frozen (i := 2) rfl 0
    have f3 := H1.out.frozen (i := 2) rfl 1
    have HF : Hid (∀ u v, MadeE w [] [] 17 (.returned (.tuple #[.agg #[.slice none 0 0, .slice none 0 0], .int .i64 17])) ((W.setCell ⟨b1 + 1 + 1, 0, none⟩ u).setCell ⟨b1 + 1 + 1, 1, none⟩ v)) := fun u v => made_nil 17 ((H1.out.put (i := 2) rfl 0 u).put (i := 2) rfl 1 v).belowN
    clear he hm hs hY hC hfb
    refine calls_marks Tryz.func145 rfl ?_
    simp only [Tryz.ntmps145, List.size_toArray, List.length_cons, List.length_nil, Nat.reduceAdd, Nat.reduceSub, Array.replicate_succ, Array.replicate_zero, List.push_toArray, List.append_toArray, List.nil_append, List.cons_append]
    go_upto_region 1 with fail
    rw [HW.out, HB1.out]
    go_wp2_with fail
    refine CM.out.mono ?_; rintro e w' ⟨rfl, hw'⟩
    have hw'' := hw'.symm
    subst hw''
    go_wp2
    exact marks_ret0 (v := .tuple #[.agg #[.slice none 0 0, .slice none 0 0], .int .i64 17]) rfl (by simp [results, Tryz.f145, go_sem, *]) (HF.out _ _)
end Go.Proofs.YthackmkdicpdeaaGreat

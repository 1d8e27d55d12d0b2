/- Contracts of mold's small functions: made, same, rest, product, lengths, table, at, far. -/
import Derived.Test.YthackmkdicpdeaaGreatCellPart
import Derived.Test.YthackmkdicpdeaaGreatSepSeq
namespace Go.Proofs.YthackmkdicpdeaaGreat
open Go.RowKit Go.Lib
set_option linter.unusedVariables false
set_option linter.unusedSimpArgs false
attribute [local go_sem] alloc_drewN setCell_drewN
/-- What an array of a shape is, if there may be such. -/
def mdE (s : List Int) : Int := if mayE s = 0 then 0 else 17
def mdS (s : List Int) : List Int := if mayE s = 0 then s else []
def mdA (s a : List Int) : List Int := if mayE s = 0 then a else []
theorem MadeE.via {w W : World} {s a : List Int} {err : Int} {e : Ending} {w' : World} (h : MadeE W s a err e w') (hb : Below w.heap.size w W) : MadeE w s a err e w' := by
  obtain ⟨B, e, hI, hs, ha, hO, hb2⟩ := h
  exact ⟨B, e, hI, hs, ha, ⟨own_mono hO.shp hb.size, own_mono hO.ats hb.size, hO.two⟩, hb.trans (hb2.mono hb.size)⟩
set_option maxHeartbeats 800000 in
theorem made_any {w : World} {so : Option Addr} {sn sc : Nat} {s : List Int} (hs : Ls w so sn sc s) {ao : Option Addr} {an ac : Nat} {a : List Int} (ha : Ls w ao an ac a) :
    Calls Tryz.prog 102 #[.slice so sn sc, .slice ao an ac] w (MadeE w (mdS s) (mdA s a) (mdE s)) := by
  obtain ⟨W, HW⟩ : ∃ z, Hid (w.alloc (.cells #[.slice none 0 0, .slice none 0 0] 38) = z) := ⟨_, rfl⟩
  have h0 := (Sp.start Non w).alloc 38 2 1 #[.slice none 0 0, .slice none 0 0] rfl (by decide)
  rw [HW.out] at h0
  have H1_ := h0
  try simp only [List.cons_append, List.nil_append, List.set_cons_zero, List.set_cons_succ, List.map_cons, List.map_nil, List.getD_cons_zero, List.getD_cons_succ, World.size_alloc] at H1_
  have H1 := Lib.hid H1_
  clear H1_
  have CM := Lib.hid (may_any (hs.below H1.out.belowN (Nat.le_refl _)))
  by_cases hm : mayE s = 0
  · rw [show mdE s = 0 from if_pos hm, show mdS s = s from if_pos hm, show mdA s a = a from if_pos hm]
    rw [hm] at CM
    have C1 := Lib.hid (clone_any (hs.below H1.out.belowN (Nat.le_refl _)))
    have HA := Lib.hid ha
    clear hs ha hm h0
    go_enter Tryz.func102, Tryz.ntmps102
    go_wp2_with fail
    rw [HW.out]
    refine CM.out.mono ?_; rintro e w' ⟨rfl, hw'⟩
    have hw'' := hw'.symm
    subst hw''
    go_wp2_with fail
    refine C1.out.mono ?_; rintro e w2 ⟨so2, sc2, rfl, hL, hO, hB⟩
    have H2_ := H1.out.intsNew hO hB hL.big hL.rng
    try simp only [List.cons_append, List.nil_append, List.set_cons_zero, List.set_cons_succ, List.map_cons, List.map_nil, List.getD_cons_zero, List.getD_cons_succ, World.size_alloc] at H2_
    have H2 := Lib.hid H2_
    clear H2_
    have C2 := Lib.hid (clone6_any (HA.out.below H2.out.belowN (Nat.le_refl _)))
    clear hL hO hB
    go_wp2_with fail
    refine C2.out.mono ?_; rintro e w3 ⟨ao2, ac2, rfl, hL, hO, hB⟩
    have H3_ := H2.out.intsNew hO hB hL.big hL.rng
    try simp only [List.cons_append, List.nil_append, List.set_cons_zero, List.set_cons_succ, List.map_cons, List.map_nil, List.getD_cons_zero, List.getD_cons_succ, World.size_alloc] at H3_
    have H3 := Lib.hid H3_
    clear H3_
    clear hL hO hB
    have x0 := H3.out.cell (i := 0) rfl 0 _ rfl
    have x1 := H3.out.cell (i := 0) rfl 1 _ rfl
    have f0 := H3.out.frozen (i := 0) rfl 0
    have f1 := H3.out.frozen (i := 0) rfl 1
    have HF : Hid (∀ u v, MadeE w s a 0 (.returned (.tuple #[.agg #[.slice so2 sn sc2, .slice ao2 an ac2], .int .i64 0])) ((w3.setCell ⟨w.heap.size, 0, none⟩ u).setCell ⟨w.heap.size, 1, none⟩ v)) := fun u v =>
      (((H3.out.put (i := 0) rfl 0 u).put (i := 0) rfl 1 v).arrOf (i := 1) (j := 2) rfl (by decide) rfl).madeE (i := 2) (B := ⟨so2, sn, sc2, ao2, an, ac2, s, a⟩) rfl 0
    clear H2 H3 H1
    go_wp2
    exact bodyPost_ret (v := .tuple #[.agg #[.slice so2 sn sc2, .slice ao2 an ac2], .int .i64 0]) (by simp [results, Tryz.results102, go_sem, *]) rfl (HF.out _ _)
  · rw [show mdE s = 17 from if_neg hm, show mdS s = [] from if_neg hm, show mdA s a = [] from if_neg hm]
    obtain ⟨m, hmm⟩ : ∃ m, m = mayE s := ⟨_, rfl⟩
    rw [← hmm] at CM hm
    have q0 : (m != 0) = true := by simpa using hm
    have x0 := H1.out.cell (i := 0) rfl 0 _ rfl
    have x1 := H1.out.cell (i := 0) rfl 1 _ rfl
    have f0 := H1.out.frozen (i := 0) rfl 0
    have f1 := H1.out.frozen (i := 0) rfl 1
    have HF : Hid (∀ u v, MadeE w [] [] 17 (.returned (.tuple #[.agg #[.slice none 0 0, .slice none 0 0], .int .i64 17])) ((W.setCell ⟨w.heap.size, 0, none⟩ u).setCell ⟨w.heap.size, 1, none⟩ v)) := fun u v => made_nil 17 ((H1.out.put (i := 0) rfl 0 u).put (i := 0) rfl 1 v).belowN
    clear hs ha hm h0 hmm
    go_enter Tryz.func102, Tryz.ntmps102
    go_wp2_with fail
    rw [HW.out]
    refine CM.out.mono ?_; rintro e w' ⟨rfl, hw'⟩
    have hw'' := hw'.symm
    subst hw''
    go_wp2
    exact bodyPost_ret (v := .tuple #[.agg #[.slice none 0 0, .slice none 0 0], .int .i64 17]) (by simp [results, Tryz.results102, go_sem, *]) rfl (HF.out _ _)
set_option maxHeartbeats 800000 in
theorem same6_any {w : World} {Y : Ar} (hY : Y.Is w) : Calls Tryz.prog 117 #[Y.v] w (MadeE w (mdS Y.s) (mdA Y.s Y.a) (mdE Y.s)) := by
  obtain ⟨ta, tn, tc, ba, bn, bc, t, b⟩ := Y
  simp only [Ar.v]
  obtain ⟨W, HW⟩ : ∃ z, Hid ((w.alloc (.cells #[.slice ta tn tc, .slice ba bn bc] 38)).alloc (.cells #[.slice none 0 0, .slice none 0 0] 38) = z) := ⟨_, rfl⟩
  have h0 := ((Sp.start Non w).alloc 38 2 1 #[.slice ta tn tc, .slice ba bn bc] rfl (by decide)).alloc 38 2 1 #[.slice none 0 0, .slice none 0 0] rfl (by decide)
  rw [HW.out] at h0
  have H1_ := h0
  try simp only [List.cons_append, List.nil_append, List.set_cons_zero, List.set_cons_succ, List.map_cons, List.map_nil, List.getD_cons_zero, List.getD_cons_succ, World.size_alloc] at H1_
  have H1 := Lib.hid H1_
  clear H1_
  have y0 := H1.out.cell (i := 0) rfl 0 _ rfl
  have y1 := H1.out.cell (i := 0) rfl 1 _ rfl
  have hI := hY.below H1.out.belowN (Nat.le_refl _)
  have C := Lib.hid (made_any hI.shp hI.ats)
  simp only at C
  obtain ⟨S, HS⟩ : ∃ z, Hid (mdS t = z) := ⟨_, rfl⟩
  obtain ⟨A, HA⟩ : ∃ z, Hid (mdA t b = z) := ⟨_, rfl⟩
  obtain ⟨E, HE⟩ : ∃ z, Hid (mdE t = z) := ⟨_, rfl⟩
  rw [HS.out, HA.out, HE.out] at C ⊢
  clear h0 hY hI
  go_enter Tryz.func117, Tryz.ntmps117
  go_wp2_with fail
  rw [HW.out]
  refine C.out.mono ?_; rintro e w2 ⟨⟨za, zn, zc, xa, xn, xc, zs, zt⟩, rfl, hI, hs, ha, hO, hb⟩
  have H2_ := H1.out.arrNew hI hO hb
  try simp only [List.cons_append, List.nil_append, List.set_cons_zero, List.set_cons_succ, List.map_cons, List.map_nil, List.getD_cons_zero, List.getD_cons_succ, World.size_alloc] at H2_
  have H2 := Lib.hid H2_
  clear H2_
  simp only at hs ha
  subst hs ha
  simp only [Ar.v]
  have x0 := H2.out.cell (i := 1) rfl 0 _ rfl
  have x1 := H2.out.cell (i := 1) rfl 1 _ rfl
  have f0 := H2.out.frozen (i := 1) rfl 0
  have f1 := H2.out.frozen (i := 1) rfl 1
  have HF : Hid (∀ u v, MadeE w zs zt E (.returned (.tuple #[.agg #[.slice za zn zc, .slice xa xn xc], .int .i64 E])) ((w2.setCell ⟨w.heap.size + 1, 0, none⟩ u).setCell ⟨w.heap.size + 1, 1, none⟩ v)) := fun u v =>
    ((H2.out.put (i := 1) rfl 0 u).put (i := 1) rfl 1 v).madeE (i := 2) (B := ⟨za, zn, zc, xa, xn, xc, zs, zt⟩) rfl E
  clear hI hO hb H2 H1 y0 y1
  go_wp2
  exact bodyPost_ret (v := .tuple #[.agg #[.slice za zn zc, .slice xa xn xc], .int .i64 E]) (by simp [results, Tryz.results117, go_sem, *]) rfl (HF.out _ _)
/-- The lengths of an item: no memory of its own. -/
def RestP (w : World) (ta : Option Addr) (tn tc : Nat) (s : List Int) (e : Ending) (w' : World) : Prop := ∃ ro rn rc, e = .returned (.slice ro rn rc) ∧ Ls w' ro rn rc s.tail ∧ Below w.heap.size w w' ∧ ∀ w'', Ls w'' ta tn tc s → Ls w'' ro rn rc s.tail
set_option maxHeartbeats 800000 in
theorem rest6_any {w : World} {Y : Ar} (hY : Y.Is w) : Calls Tryz.prog 127 #[Y.v] w (RestP w Y.sa Y.sn Y.sc Y.s) := by
  obtain ⟨ta, tn, tc, ba, bn, bc, t, b⟩ := Y
  simp only [Ar.v]
  have htl : t.length = tn := hY.shp.len
  obtain ⟨W, HW⟩ : ∃ z, Hid (w.alloc (.cells #[.slice ta tn tc, .slice ba bn bc] 38) = z) := ⟨_, rfl⟩
  have h0 := (Sp.start Non w).alloc 38 2 1 #[.slice ta tn tc, .slice ba bn bc] rfl (by decide)
  rw [HW.out] at h0
  have H1_ := h0
  try simp only [List.cons_append, List.nil_append, List.set_cons_zero, List.set_cons_succ, List.map_cons, List.map_nil, List.getD_cons_zero, List.getD_cons_succ, World.size_alloc] at H1_
  have H1 := Lib.hid H1_
  clear H1_
  have y0 := H1.out.cell (i := 0) rfl 0 _ rfl
  have y1 := H1.out.cell (i := 0) rfl 1 _ rfl
  have HB := Lib.hid H1.out.belowN
  have HS := Lib.hid hY.shp
  have hI := (hY.below H1.out.belowN (Nat.le_refl _)).shp
  simp only at hI
  by_cases h : tn = 0
  · have e : t = [] := List.eq_nil_of_length_eq_zero (by omega)
    subst e h
    have HF : Hid (RestP w ta 0 tc [] (.returned (.slice none 0 0)) W) := ⟨none, 0, 0, rfl, Ls.zero W none (Nat.zero_le _), HB.out, fun w'' _ => Ls.zero w'' none (Nat.zero_le _)⟩
    clear hY h0 H1 htl hI
    go_enter Tryz.func127, Tryz.ntmps127
    go_wp2_with fail
    rw [HW.out]
    go_wp2
    go_ret
    exact HF.out
  · have htt : (t.drop 1).take (tn - 1) = t.tail := by
      rw [List.drop_one, List.take_of_length_le (by rw [List.length_tail, htl]; exact Nat.le_refl _)]
    have hcut : ∀ w'', Ls w'' ta tn tc t → Ls w'' (if tc = 1 then ta else ta.map fun x => x.add 1) (tn - 1) (tc - 1) t.tail := fun w'' h => by
      have h2 := h.cutI 1 (tn - 1) (by omega)
      rw [htt] at h2
      exact h2
    have hcap := hI.cap
    have htop := hI.top
    have q0 : ((tn : Int) == 0) = false := by simp; omega
    have z1 : (1 : Int) ≤ tn := by omega
    have z2 : (tn : Int) ≤ tc := by omega
    have HF : Hid (∀ ro rc, Value.slice (if tc = 1 then ta else ta.map fun x => x.add 1) (tn - 1) (tc - 1) = .slice ro (tn - 1) rc → RestP w ta tn tc t (.returned (.slice ro (tn - 1) rc)) W) := fun ro rc he => by
      cases he
      exact ⟨_, _, _, rfl, hcut W hI, HB.out, hcut⟩
    obtain ⟨g, off, rfl⟩ := hI.form (by omega)
    clear hY h0 H1 htl hcut htt HS hI
    by_cases hc : tc = 1
    · subst hc
      obtain rfl : tn = 1 := by omega
      have HG := Lib.hid (HF.out (some ⟨g, off, none⟩) 0 (by simp))
      clear HF
      go_enter Tryz.func127, Tryz.ntmps127
      go_wp2_with fail
      rw [HW.out]
      go_wp2
      go_ret
      exact HG.out
    · have z3 : ¬ tc - 1 = 0 := by omega
      have HG := Lib.hid (HF.out ((some (⟨g, off, none⟩ : Addr)).map fun x => x.add 1) (tc - 1) (by rw [if_neg hc]))
      clear HF
      go_enter Tryz.func127, Tryz.ntmps127
      go_wp2_with fail
      rw [HW.out]
      go_wp2
      go_ret
      exact HG.out
theorem pr_take_bd {s : List Int} (hm : mayE s = 0) (i : Nat) : 0 ≤ pr (s.take i) ∧ pr (s.take i) ≤ 4096 := by
  have h := mayE_app (s := s.take i) (t := s.drop i) (by rw [List.take_append_drop]; exact hm)
  exact pr_nonneg h.1
theorem pr_take_succ {s : List Int} {i : Nat} (hi : i < s.length) : pr (s.take (i + 1)) = pr (s.take i) * s.getD i 0 := by
  rw [List.take_add_one, pr_app, List.getElem?_eq_getElem hi]
  simp [pr, List.getD, List.getElem?_eq_getElem hi]
set_option maxHeartbeats 800000 in
theorem product_any {w : World} {ao : Option Addr} {n c : Nat} {s : List Int} (h : Ls w ao n c s) (hm : mayE s = 0) : Calls Tryz.prog 126 #[.slice ao n c] w (RetS w (.int .i64 (pr s))) := by
  have hn : s.length = n := h.len
  have hn8 : n ≤ 8 := by rw [← hn]; exact (mayE_zero hm).2.1
  have H := Lib.hid h
  have HM := Lib.hid hm
  have HN := Lib.hid hn
  clear h hm hn
  go_enter Tryz.func126, Tryz.ntmps126
  go_wp2_with fail
  go_loop [3, 8] (fun v i => ∃ k : Nat, k ≤ n ∧ i = .int .i64 k ∧ v = .int .i64 (pr (s.take k))) (fun _ i => n - (RowKit.intOf i).toNat)
  case atStart => exact ⟨0, Nat.zero_le _, rfl, by simp [pr]⟩
  case round =>
    obtain ⟨k, hk, rfl, rfl⟩ := hrel
    by_cases hlt : k < n
    · have hlt' : (k : Int) < n := by omega
      obtain ⟨b1, o1, rfl, hc1⟩ := H.out.at (by omega)
      have d1 := hc1 k hlt
      have hb1 := pr_take_bd HM.out k
      have hb2 := pr_take_bd HM.out (k + 1)
      have hst := pr_take_succ (s := s) (i := k) (by rw [HN.out]; exact hlt)
      rw [hst] at hb2
      obtain ⟨x, HX⟩ : ∃ x, Hid (s.getD k 0 = x) := ⟨_, rfl⟩
      obtain ⟨p, HP⟩ : ∃ x, Hid (pr (s.take k) = x) := ⟨_, rfl⟩
      rw [HX.out] at d1 hb2 hst
      rw [HP.out] at hb1 hb2 hst ⊢
      have HST := Lib.hid hst
      have zw : IntKind.i64.wrap (p * x) = p * x := IntWalk.i64_in _ (by omega)
      clear hc1 hst hb2
      go_wp2
      go_round
      case rel => exact ⟨k + 1, by omega, by go_num, by rw [HST.out]⟩
      case measure => simp [RowKit.intOf]; omega
    · have hge : ¬ (k : Int) < n := by omega
      obtain rfl : k = n := by omega
      have e : pr (s.take k) = pr s := by rw [List.take_of_length_le (by rw [HN.out]; exact Nat.le_refl _)]
      rw [e]
      clear e
      go_wp2
      go_ret
      exact RetS.mk rfl
/-- The place of indices, or -1. -/
def atF (s t : List Int) : Int := if plE s t = 0 then plV s t else -1
set_option maxHeartbeats 400000 in
theorem at6_any {w : World} {a1 a2 : Option Addr} {n1 c1 n2 c2 : Nat} {s t : List Int} (h1 : Ls w a1 n1 c1 s) (h2 : Ls w a2 n2 c2 t) : Calls Tryz.prog 133 #[.slice a1 n1 c1, .slice a2 n2 c2] w (RetS w (.int .i64 (atF s t))) := by
  have C := Lib.hid (place_any h1 h2)
  obtain ⟨e, HE⟩ : ∃ z, Hid (plE s t = z) := ⟨_, rfl⟩
  obtain ⟨v, HV⟩ : ∃ z, Hid (plV s t = z) := ⟨_, rfl⟩
  have HF : Hid (atF s t = if e = 0 then v else -1) := by show _ = _; rw [← HE.out, ← HV.out]; rfl
  rw [HE.out, HV.out] at C
  rw [HF.out]
  clear h1 h2 HF HE HV
  by_cases he : e = 0
  · subst he
    rw [if_pos rfl]
    go_enter Tryz.func133, Tryz.ntmps133
    go_wp2_with fail
    refine C.out.mono ?_; rintro e w' ⟨rfl, rfl⟩
    go_wp2
    go_ret
    exact RetS.mk rfl
  · rw [if_neg he]
    have q0 : (e != 0) = true := by simpa using he
    go_enter Tryz.func133, Tryz.ntmps133
    go_wp2_with fail
    refine C.out.mono ?_; rintro e w' ⟨rfl, rfl⟩
    go_wp2
    go_ret
    exact RetS.mk rfl
/-- A number without its sign, as far as it may be a length. -/
def fa (n : Int) : Int := if n < -4096 ∨ 4096 < n then 4097 else max n (-n)
theorem fa_bd (n : Int) : 0 ≤ fa n ∧ fa n ≤ 4097 := by unfold fa; split <;> omega
set_option maxHeartbeats 400000 in
theorem far_any (n : Int) (w : World) : Calls Tryz.prog 144 #[.int .i64 n] w (RetS w (.int .i64 (fa n))) := by
  by_cases h1 : n < -4096
  · rw [show fa n = 4097 from if_pos (Or.inl h1)]
    go_enter Tryz.func144, Tryz.ntmps144
    go_wp2
    go_ret
    exact RetS.mk rfl
  · by_cases h2 : 4096 < n
    · rw [show fa n = 4097 from if_pos (Or.inr h2)]
      go_enter Tryz.func144, Tryz.ntmps144
      go_wp2
      go_ret
      exact RetS.mk rfl
    · rw [show fa n = max n (-n) from if_neg (by omega)]
      have z1 : IntKind.i64.wrap (-n) = -n := IntWalk.i64_in _ (by omega)
      go_enter Tryz.func144, Tryz.ntmps144
      go_wp2
      go_ret
      exact RetS.mk rfl
end Go.Proofs.YthackmkdicpdeaaGreat

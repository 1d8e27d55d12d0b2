/- Contract of the document's Join (printed by gen_r4join.py). -/
import Derived.Test.YthackmkdicpdeaaR4Add
import Derived.Test.YthackmkdicpdeaaR4Done
import Derived.Test.YthackmkdicpdeaaCellJoin
namespace Go.Proofs.Ythackmkdicpdeaa
open Go.RowKit Go.Lib
set_option linter.unusedVariables false
set_option linter.unusedSimpArgs false
attribute [local go_sem] alloc_drewN setCell_drewN
/-- Behind k of the rounds. -/
def RJoinI (w wr : World) (b g : Nat) (fr : List Int) (l : List (List Int × List Int)) (k : Nat) : Prop :=
  ∃ c G, Sp Non w wr [Pt.row ⟨45, 2, some ⟨b, 0, none⟩, 1, 1, [.slice none 0 0, .slice none 0 0]⟩, Pt.rjoiner g fr c G] ∧ jnGo fr [] [] l = jnGo fr c G (l.drop k)
set_option maxRecDepth 100000 in
set_option maxHeartbeats 3200000 in
theorem rjoin_any {w : World} {fo : Option Addr} {fn fc : Nat} {fr : List Int} (hL : Ls w fo fn fc fr) {co : Option Addr} {cn cc : Nat} {As : List Ar} (hA : Ars w co cn cc As) :
    Calls Try.prog 48 #[.slice fo fn fc, .slice co cn cc] w (MadeE w (jnS fr (As.map Ar.sa2)) (jnA fr (As.map Ar.sa2)) (jnE fr (As.map Ar.sa2))) := by
  obtain ⟨W, HW⟩ : ∃ z, Hid (w.alloc (.cells #[.slice none 0 0, .slice none 0 0] 45) = z) := ⟨_, rfl⟩
  have h1 := (Sp.start Non w).alloc 45 2 1 #[.slice none 0 0, .slice none 0 0] rfl (by decide)
  rw [HW.out] at h1
  have H1_ := h1
  try simp only [List.cons_append, List.nil_append, List.set_cons_zero, List.set_cons_succ, List.map_cons, List.map_nil, List.getD_cons_zero, List.getD_cons_succ, World.size_alloc] at H1_
  have H1 := Lib.hid H1_
  clear H1_
  obtain ⟨b, HB⟩ : ∃ z, Hid (w.heap.size = z) := ⟨_, rfl⟩
  rw [HB.out] at H1
  have HA := Lib.hid hA
  have HL := Lib.hid hL
  obtain ⟨l, HLL⟩ : ∃ z, Hid (As.map Ar.sa2 = z) := ⟨_, rfl⟩
  rw [HLL.out]
  have hcn : As.length = cn := hA.len
  have hct := hA.top
  have hcc := hA.cap
  have hll : l.length = cn := by rw [← HLL.out, List.length_map]; exact hcn
  have hLW := hL.below H1.out.belowN (Nat.le_refl _)
  have eE : jnE fr l = if bgE fr = 0 then if (jnGo fr [] [] l).1 = 0 then dnE fr (jnGo fr [] [] l).2.2 else (jnGo fr [] [] l).1 else bgE fr := rfl
  have eS : jnS fr l = if bgE fr = 0 then if (jnGo fr [] [] l).1 = 0 then dnS fr (jnGo fr [] [] l).2.1 (jnGo fr [] [] l).2.2 else [] else [] := rfl
  have eA : jnA fr l = if bgE fr = 0 then if (jnGo fr [] [] l).1 = 0 then dnA fr (jnGo fr [] [] l).2.1 (jnGo fr [] [] l).2.2 else [] else [] := rfl
  obtain ⟨RE, HRE⟩ : ∃ z, Hid (jnE fr l = z) := ⟨_, rfl⟩
  obtain ⟨RS, HRS⟩ : ∃ z, Hid (jnS fr l = z) := ⟨_, rfl⟩
  obtain ⟨RA, HRA⟩ : ∃ z, Hid (jnA fr l = z) := ⟨_, rfl⟩
  rw [HRE.out, HRS.out, HRA.out]
  rw [HRE.out] at eE
  rw [HRS.out] at eS
  rw [HRA.out] at eA
  clear HRE HRS HRA
  by_cases hb : bgE fr = 0
  · rw [if_pos hb] at eE eS eA
    have CB := Lib.hid (rbegin_ok hLW hb)
    have HEE := Lib.hid (And.intro eE (And.intro eS eA))
    have HLN := Lib.hid (And.intro hll hcn)
    unfold maxLen at hct
    clear h1 hA hL hLW eE eS eA hb hll hcn
    go_enter Try.func48, Try.ntmps48
    go_wp2_with fail
    rw [HW.out]
    refine CB.out.mono ?_; rintro e w2 ⟨g, rfl, h2⟩
    have H2_ := H1.out.add h2
    try simp only [List.cons_append, List.nil_append, List.set_cons_zero, List.set_cons_succ, List.map_cons, List.map_nil, List.getD_cons_zero, List.getD_cons_succ, World.size_alloc] at H2_
    have H2 := Lib.hid H2_
    clear H2_
    rw [HB.out]
    clear h2
    go_wp2_with fail
    go_loopw [8] (fun v wr => ∃ k : Nat, k ≤ cn ∧ v = .int .i64 k ∧ Hid (RJoinI w wr b g fr l k)) (fun v _ => cn - (RowKit.intOf v).toNat)
    case atStart => exact ⟨0, by omega, rfl, ⟨[], [], H2.out, rfl⟩⟩
    case round =>
      obtain ⟨k, hk, rfl, HO⟩ := hrel
      obtain ⟨c, G, hsp, hgo⟩ := HO.out
      have HSP := Lib.hid hsp
      have HGO := Lib.hid hgo
      by_cases hlt : k < cn
      · obtain ⟨⟨ea, en, ec, ba, bn, bc, s, a⟩, hAi⟩ : ∃ B, As[k]? = some B := ⟨As[k]'(by have := HLN.out.2; omega), List.getElem?_eq_getElem _⟩
        obtain ⟨gb, off, hco, hgl, hcs⟩ := HA.out.mem (by omega)
        subst hco
        obtain ⟨e0, e1⟩ := hcs k _ hAi
        simp only at e0 e1
        have e0' := (hsp.belowN.cell (p := ⟨gb, off + k * 2, none⟩) hgl).trans e0
        have e1' := (hsp.belowN.cell (p := ⟨gb, off + (k * 2 + 1), none⟩) hgl).trans e1
        have e1'' : wr.cell? ⟨gb, off + k * 2 + 1, none⟩ = some (.slice ba bn bc) := e1'
        have hIA := HA.out.all k _ hAi
        have hgl' : l[k]? = some (s, a) := by rw [← HLL.out, List.getElem?_map, hAi]; rfl
        have hdr : l.drop k = (s, a) :: l.drop (k + 1) := by
          rw [List.drop_eq_getElem_cons (by have := HLN.out.1; omega)]
          congr 1
          rw [List.getElem?_eq_getElem (by have := HLN.out.1; omega)] at hgl'
          simpa using hgl'
        have hun : jnGo fr c G (l.drop k) = if adE fr c G s a = 0 then jnGo fr (adC c G s) (G ++ [(s, a)]) (l.drop (k + 1)) else (adE fr c G s a, c, G) := by rw [hdr]; rfl
        have H3_ := hsp
        try simp only [List.cons_append, List.nil_append, List.set_cons_zero, List.set_cons_succ, List.map_cons, List.map_nil, List.getD_cons_zero, List.getD_cons_succ, World.size_alloc] at H3_
        have H3 := Lib.hid H3_
        clear H3_
        obtain ⟨F, hF, hFs, -, hput⟩ := H3.out.hole (i := 1) rfl
        have hFs' : ∀ k, F k → w.heap.size ≤ k := fun k hk => (hFs k hk).elim (fun h => h.elim) id
        have CA := Lib.hid (radd4_any hF (hIA.below H3.out.belowN (Nat.le_refl _)) (hIA.off_old hFs'))
        simp only [Ar.v] at CA
        have HPUT := Lib.hid hput
        have HUN := Lib.hid hun
        have hlt' : (k : Int) < cn := by omega
        clear hF hFs hFs' hput hun hdr hgl' hIA hcs e0 e1 hgl hAi hsp hgo
        go_wp2_with fail
        refine CA.out.mono ?_; rintro e w4 ⟨rfl, F', hF', hs', ho'⟩
        have h4 := (HPUT.out w4 _ F' hF' hs' ho').pick [0, 1] (by decide)
        clear hF' hs' ho' HPUT CA e0' e1' e1''
        by_cases he : adE fr c G s a = 0
        · have HJ : Hid (RJoinI w w4 b g fr l (k + 1)) := by
            obtain ⟨q1, q2⟩ := adNC_ok he
            rw [q1, q2] at h4
            exact ⟨_, _, h4, by rw [HGO.out, HUN.out, if_pos he]⟩
          rw [he]
          clear h4 he
          go_wp2
          go_roundw
          case rel => first | exact ⟨k + 1, by omega, by go_num, HJ⟩ | ((repeat apply Exists.intro); exact ⟨⟨k + 1, by omega, by go_num, HJ⟩, rfl⟩)
          case measure => simp [RowKit.intOf]; omega
        · obtain ⟨m, hmm⟩ : ∃ m, m = adE fr c G s a := ⟨_, rfl⟩
          have hj : (jnGo fr [] [] l).1 = m := by rw [HGO.out, HUN.out, if_neg he, hmm]
          have hm0 : ¬ m = 0 := by rw [hmm]; exact he
          have r1 : RE = m := by rw [HEE.out.1, hj, if_neg hm0]
          have r2 : RS = [] := by rw [HEE.out.2.1, hj, if_neg hm0]
          have r3 : RA = [] := by rw [HEE.out.2.2, hj, if_neg hm0]
          have q0 : (m != 0) = true := by simpa using hm0
          have x0 := h4.cell (i := 0) rfl 0 _ rfl
          have x1 := h4.cell (i := 0) rfl 1 _ rfl
          have f0 := h4.frozen (i := 0) rfl 0
          have f1 := h4.frozen (i := 0) rfl 1
          have HF : Hid (∀ u v, MadeE w RS RA RE (.returned (.tuple #[.agg #[.slice none 0 0, .slice none 0 0], .int .i64 m])) ((w4.setCell ⟨b, 0, none⟩ u).setCell ⟨b, 1, none⟩ v)) := fun u v => by
            rw [r1, r2, r3]
            exact made_nil m ((h4.put (i := 0) rfl 0 u).put (i := 0) rfl 1 v).belowN
          rw [← hmm]
          clear h4 he hj hmm r1 r2 r3 hm0
          go_wp2
          exact bodyPost_ret (v := .tuple #[.agg #[.slice none 0 0, .slice none 0 0], .int .i64 m]) (by simp [results, Try.results48, go_sem, *]) rfl (HF.out _ _)
      · have hge : ¬ ((k : Int) < cn) := by omega
        have hdk : l.drop k = [] := List.drop_of_length_le (by have := HLN.out.1; omega)
        have hj : jnGo fr [] [] l = (0, c, G) := by rw [hgo, hdk]; rfl
        have r1 : RE = dnE fr G := by rw [HEE.out.1, hj, if_pos rfl]
        have r2 : RS = dnS fr c G := by rw [HEE.out.2.1, hj, if_pos rfl]
        have r3 : RA = dnA fr c G := by rw [HEE.out.2.2, hj, if_pos rfl]
        obtain ⟨F, hF, hFs, -, hput⟩ := hsp.hole2 (i := 1) rfl
        have CD := Lib.hid (rdone_any hF)
        rw [← r1, ← r2, ← r3] at CD
        have HPUT := Lib.hid hput
        clear hsp hgo hdk hj r1 r2 r3 hF hFs hput
        go_wp2_with fail
        refine CD.out.mono ?_; rintro e w5 ⟨⟨za, zn, zc, ta, tn, tc, zs, zt⟩, rfl, hzs, hzt, h5⟩
        simp only at hzs hzt
        have hzs' := hzs.symm
        have hzt' := hzt.symm
        subst hzs' hzt'
        simp only [Ar.v]
        have h6 : Sp Non w w5 [Pt.row ⟨45, 2, some ⟨b, 0, none⟩, 1, 1, [.slice none 0 0, .slice none 0 0]⟩, Pt.arr ⟨za, zn, zc, ta, tn, tc, RS, RA⟩] := by
          exact (HPUT.out w5 _ h5).pick [0, 3] (by decide)
        have x0 := h6.cell (i := 0) rfl 0 _ rfl
        have x1 := h6.cell (i := 0) rfl 1 _ rfl
        have f0 := h6.frozen (i := 0) rfl 0
        have f1 := h6.frozen (i := 0) rfl 1
        have HF : Hid (∀ u v, MadeE w RS RA RE (.returned (.tuple #[.agg #[.slice za zn zc, .slice ta tn tc], .int .i64 RE])) ((w5.setCell ⟨b, 0, none⟩ u).setCell ⟨b, 1, none⟩ v)) := fun u v =>
          ((h6.put (i := 0) rfl 0 u).put (i := 0) rfl 1 v).madeE (i := 1) (B := ⟨za, zn, zc, ta, tn, tc, RS, RA⟩) rfl RE
        clear h5 h6 HPUT
        go_wp2
        exact bodyPost_ret (v := .tuple #[.agg #[.slice za zn zc, .slice ta tn tc], .int .i64 RE]) (by simp [results, Try.results48, go_sem, *]) rfl (HF.out _ _)
  · rw [if_neg hb] at eE eS eA
    have CB := Lib.hid (rbegin_bad hLW hb)
    subst eE eS eA
    obtain ⟨m, hm⟩ : ∃ m, m = bgE fr := ⟨_, rfl⟩
    rw [← hm] at CB hb ⊢
    have q0 : (m != 0) = true := by simpa using hb
    have x0 := H1.out.cell (i := 0) rfl 0 _ rfl
    have x1 := H1.out.cell (i := 0) rfl 1 _ rfl
    have f0 := H1.out.frozen (i := 0) rfl 0
    have f1 := H1.out.frozen (i := 0) rfl 1
    have HF : Hid (∀ u v, MadeE w [] [] m (.returned (.tuple #[.agg #[.slice none 0 0, .slice none 0 0], .int .i64 m])) ((W.setCell ⟨b, 0, none⟩ u).setCell ⟨b, 1, none⟩ v)) := fun u v =>
      made_nil m ((H1.out.put (i := 0) rfl 0 u).put (i := 0) rfl 1 v).belowN
    clear h1 hA hL hLW hb hm
    go_enter Try.func48, Try.ntmps48
    go_wp2_with fail
    rw [HW.out]
    refine CB.out.mono ?_; rintro e w2 ⟨rfl, hw⟩
    have hw' := hw.symm
    subst hw'
    rw [HB.out]
    go_wp2
    exact bodyPost_ret (v := .tuple #[.agg #[.slice none 0 0, .slice none 0 0], .int .i64 m]) (by simp [results, Try.results48, go_sem, *]) rfl (HF.out _ _)
end Go.Proofs.Ythackmkdicpdeaa

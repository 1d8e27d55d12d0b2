/- The hand of layer 2 (abacuslaw2): a list laid in memory that is used anew, marks behind it; kept. -/
import Derived.Test.YtdedbfbkakofgaaShapeFreshM9
import Derived.Deep.CutBlock
namespace Go.Proofs.Ytdedbfbkakofgaa
open Go.RowKit Go.Lib
set_option linter.unusedVariables false
set_option linter.unusedSimpArgs false
attribute [local go_sem] alloc_drewN setCell_drewN
section
variable {base : Nat} {w : World} {R : Nat × Nat × Nat → Rw}
theorem updS_self {t : Nat × Nat × Nat} {r : Rw} (h : R t = r) : updR R t r = R := by
  funext s
  by_cases e : s = t
  · subst e; rw [updR_eq, h]
  · rw [updR_ne e]
theorem updS_two {t : Nat × Nat × Nat} {r r' : Rw} : updR (updR R t r) t r' = updR R t r' := by
  funext s
  by_cases e : s = t
  · subst e; rw [updR_eq, updR_eq]
  · rw [updR_ne e, updR_ne e, updR_ne e]
/-- append of a list that is read to a row that is held. -/
theorem Hold.wpList_ls {P : Program} (h : Hold base w R) {ops : Array Oper} {rest : List Oper} {o : Oper} {a : Act} {Q : Exit → Act → World → Prop} (hgd : o.guard = none) (s x : Operand) (t : TypeId)
    (ho : o.op = .call { callee := .builtin .append, args := #[s, x], argTypes := #[t, t] })
    (tg : Nat × Nat × Nat) (e : TypeId) (i : TypeInfo) (ht : P.underlying t = some (.slice e)) (hi : P.info? e = some i) (hz : i.zero = some (.int .i64 0)) (hsize : i.size = 1) (hby : i.bytes = 8)
    {ao : Option Addr} {n c : Nat} {xs : List Int} (hr : R tg = ⟨e, 1, ao, n, c, xs.map (Value.int .i64)⟩) (hs : a.eval s = .slice ao n c)
    {la : Option Addr} {m lc : Nat} {zs : List Int} (hx : a.eval x = .slice la m lc) (hL : Ls w la m lc zs) (h63 : (n + m) * 8 ≤ 140737488355328)
    (hk : ∀ bo d w', Hold base w' (updR R tg ⟨e, 1, bo, n + m, d, (xs ++ zs).map (Value.int .i64)⟩) → Below base w w' → (0 < m → bo ≠ none) → wpList P ops Q rest (a.put o.dst (.slice bo (n + m) d)) w') : wpList P ops Q (o :: rest) a w :=
  wpList_plain hgd fun _ hK => by
    have hown := h.own tg
    rw [hr] at hown
    obtain ⟨bo, d, w', hrun, h2, h3, h4, h5⟩ := run_append_loc (P := P) w base t o.type e i ht hi hz hsize hby (.slice ao n c) n xs hown hL h63 h.base
    unfold Oper.wp execOp
    simp only [ho, resolve, invoke, builtin, Sem.run_bind, Sem.run_pure, Result.andThen_ok, List.map_toArray, List.map_cons, List.map_nil, hs, hx, hrun]
    refine hK _ _ (hk bo d w' (h.grow tg h2 (by rw [hr]; exact h3) fun g hg => ?_) ((Below.refl _ _).grown h3 h.base fun k hk => (Rw.own.lt hown hk).1) h5)
    rcases h4 g hg with h6 | h6
    · left; rw [hr]; exact h6
    · right; omega
theorem mark2_any (i : Nat) (w : World) : Calls Try.prog 97 #[.int .i64 i] w (RetS w (.int .i64 (mkS i))) := by
  unfold mkS
  go_enter Try.func97, Try.ntmps97
  go_wp2
  go_ret
  exact RetS.mk rfl
/-- Behind Ints: the list in the hand's memory, marks behind it. -/
def IntsP (base : Nat) (w : World) (R : Nat × Nat × Nat → Rw) (tp tr : Nat × Nat × Nat) (P0 : Rw) (j ln : Nat) (l : List Int) (e : Ending) (w' : World) : Prop :=
  ∃ (g d : Nat) (R' : Nat × Nat × Nat → Rw), e = .returned (.slice (some ⟨g, 0, none⟩) ln d) ∧ ln + 2 ≤ d ∧ Hold base w' R' ∧ R' tr = ⟨3, 1, some ⟨g, 0, none⟩, d, d, (mkd mkS l d).map (Value.int .i64)⟩ ∧
    R' tp = { P0 with xs := P0.xs.set j (.slice (some ⟨g, 0, none⟩) d d) } ∧ (∀ t, t ≠ tp → t ≠ tr → R' t = R t) ∧ Below base w w'
set_option maxRecDepth 100000 in
set_option maxHeartbeats 3200000 in
theorem ints_any (H : Hold base w R) {tp tr : Nat × Nat × Nat} (hne : tp ≠ tr) {E0 : TypeId} {sz0 hb n0 c0 j : Nat} {xs : List Value} (htp : R tp = ⟨E0, sz0, some ⟨hb, 0, none⟩, n0, c0, xs⟩)
    {ao : Option Addr} {m c : Nat} {ys : List Value} (hj : xs[j]? = some (.slice ao m c)) (htr : R tr = ⟨3, 1, ao, m, c, ys⟩)
    {la : Option Addr} {ln lc : Nat} {l : List Int} (hl : ∀ wx, Below base w wx → Ls wx la ln lc l) :
    Calls Try.prog 50 #[.pointer (some ⟨hb, j, none⟩), .slice la ln lc] w (IntsP base w R tp tr ⟨E0, sz0, some ⟨hb, 0, none⟩, n0, c0, xs⟩ j ln l) := by
  have hl0 := hl w (Below.refl _ _)
  have hbig := hl0.big
  have hlen := hl0.len
  have d0 : w.cell? ⟨hb, j, none⟩ = some (.slice ao m c) := H.cell htp j _ hj
  have f0 := H.frozen htp j
  have HH := Lib.hid H
  have HTP := Lib.hid htp
  have HTR := Lib.hid htr
  have HJ := Lib.hid hj
  have HL := Lib.hid hl
  have HNE := Lib.hid hne
  clear H htp htr hj hl hl0 hne
  go_enter Try.func50, Try.ntmps50
  go_upto_if 17 with fail
  go_cut [] from 18 to 20 (fun wx => ∃ (a1 : Option Addr) (m1 c1 : Nat) (R1 : Nat × Nat × Nat → Rw), Hid (Hold base wx R1 ∧ R1 tr = ⟨3, 1, a1, 0, c1, []⟩ ∧ R1 tp = ⟨E0, sz0, some ⟨hb, 0, none⟩, n0, c0, xs.set j (.slice a1 m1 c1)⟩ ∧ (∀ t, t ≠ tp → t ≠ tr → R1 t = R t) ∧ Below base w wx))
  case first =>
    by_cases hc : (ln : Int) + 70000 < c
    · go_wp2_with fail
      go_meet
      have h1 := HH.out.put HTP.out j (.slice none 0 0)
      have h2 := h1.add tr (r := ⟨3, 1, none, 0, 0, []⟩) (World.ownsRow_nil _ _ _ _) fun s _ g hg => by cases hg
      exact ⟨none, 0, 0, _, ⟨h2, updR_eq, (updR_ne HNE.out).trans updR_eq, fun t h3 h4 => (updR_ne h4).trans (updR_ne h3), HH.out.putB HTP.out j _⟩⟩
    · go_wp2_with fail
      go_meet
      have ho := HH.out.own tr
      rw [HTR.out] at ho
      have h1 := HH.out.add tr (r := ⟨3, 1, ao, 0, c, []⟩) (own_shut ho) fun s hs g hg hg' => HH.out.dis s tr hs g hg' (by rw [HTR.out]; cases ao <;> exact hg)
      refine ⟨ao, m, c, _, ⟨h1, updR_eq, (updR_ne HNE.out).trans (HTP.out.trans ?_), fun t h3 h4 => updR_ne h4, Below.refl _ _⟩⟩
      congr 1
      obtain ⟨hlt, he⟩ := List.getElem?_eq_some_iff.1 HJ.out
      rw [← he, List.set_getElem_self]
  case rest =>
    obtain ⟨a1, m1, c1, R1, hF⟩ := hcut
    obtain ⟨W1, hW1⟩ : ∃ z : World, z = wc := ⟨_, rfl⟩
    subst hW1
    obtain ⟨h1, h2, h3, h4, h5⟩ := hF.out
    have hjl : j < xs.length := (List.getElem?_eq_some_iff.1 HJ.out).1
    have HJL := Lib.hid hjl
    have H1 := Lib.hid h1
    have T1 := Lib.hid h2
    have P1 := Lib.hid h3
    have N1 := Lib.hid h4
    have B1 := Lib.hid h5
    have e0 : W1.cell? ⟨hb, j, none⟩ = some (.slice a1 m1 c1) := h1.cell h3 j _ (by rw [List.getElem?_set_self hjl])
    have hc1 : (0 : Int) ≤ c1 := by omega
    obtain ⟨i0, hi0, hz0, hz1, hz2⟩ := info_parts (P := Try.prog) (e := 3) (z := .int .i64 0) (size := 1) (bytes := 8) (by kernel_rfl)
    have HLS : Hid (Ls W1 la ln lc l) := HL.out W1 h5
    have h63 : (0 + ln) * 8 ≤ 140737488355328 := by omega
    have h64 : (ln + 2) * 8 ≤ 140737488355328 := by omega
    clear h1 h2 h3 h4 h5 hjl hF d0 f0
    go_wp2_with (at_builtin; refine Hold.wpList_ls H1.out rfl _ _ 25 rfl tr 3 i0 Try.underlying25 hi0 hz0 hz1 hz2 (xs := []) T1.out rfl rfl HLS.out h63 ?_)
    intro b2 d2 w2 hH2 hB2 hn2
    have H2 : Hid (Hold base (w2.alloc (.cells #[.int .i64 0, .int .i64 0] 3)) (updR R1 tr ⟨3, 1, b2, ln, d2, l.map (Value.int .i64)⟩)) := hH2.via (abal _ _)
    have HL0 := Lib.hid (lit00 w2 3)
    have B2 : Hid (Below base w (w2.alloc (.cells #[.int .i64 0, .int .i64 0] 3))) := (B1.out.trans hB2).trans ((abal _ _).mono hH2.base)
    clear hH2 hB2 hn2 e0
    go_wp2_with (at_builtin; refine Hold.wpList_ls H2.out rfl _ _ 25 rfl tr 3 i0 Try.underlying25 hi0 hz0 hz1 hz2 (xs := l) updR_eq rfl rfl HL0.out h64 ?_)
    intro b3 d w3 hH3 hB3 hn3
    rw [updS_two] at hH3
    have hn3' := hn3
    have hcap := hH3.cap updR_eq
    have ho := hH3.own tr
    rw [updR_eq] at ho
    simp only [Rw.own, Rw.v] at ho
    obtain ⟨q1, q2, Y, q3, q4⟩ := own_full ho
    have q5 : w3.ownsRow base 3 1 (.slice b3 d d) d (rowV l Y) := by simpa [rowV] using q4
    have hg : ∃ g, b3 = some ⟨g, 0, none⟩ := hcap.2.2.2.2 (by omega)
    obtain ⟨g, rfl⟩ := hg
    have hH4 := hH3.add tr (r := ⟨3, 1, some ⟨g, 0, none⟩, d, d, rowV l Y⟩) q5 fun s hs k hk hk' => hH3.dis s tr hs k hk' (by rw [updR_eq]; exact hk)
    rw [updS_two] at hH4
    have LX : Hid ((rowV l Y).length = d) := by show _ = _; have := q5.1; rw [Nat.mul_one] at this; exact this
    have H4 := Lib.hid hH4
    have B4 := Lib.hid (B2.out.trans hB3)
    have hdm : (d : Int) ≤ 9223372036854775807 := by unfold maxLen at q2; omega
    have hd0 : (0 : Int) ≤ d := by omega
    have hnd : ln + 2 ≤ d := q1
    have hni : (ln : Int) ≤ d := by omega
    clear hH3 hB3 hn3 hn3' hcap ho q1 q2 q3 q4 q5 hH4 H2 B2 HL0
    go_wp2_with fail
    go_loopw [7] (fun v7 wx => ∃ i : Nat, ln ≤ i ∧ i ≤ d ∧ v7 = .int .i64 i ∧ Hid (Hold base wx (updR R1 tr ⟨3, 1, some ⟨g, 0, none⟩, d, d, fl mkS ln i (rowV l Y)⟩)) ∧ Hid (Below base w wx)) (fun v7 _ => d - (RowKit.intOf v7).toNat)
    case atStart => exact ⟨ln, Nat.le_refl _, by omega, rfl, by (show Hold _ _ _; rw [fl_start]; exact H4.out), B4⟩
    case round =>
      obtain ⟨i, hi1, hi2, rfl, HI, HBI⟩ := hrel
      by_cases hlt : i < d
      · have hlt' : (i : Int) < d := by omega
        have CM := Lib.hid (fun w1 => mark2_any i w1)
        have hil : i < (fl mkS ln i (rowV l Y)).length := by rw [fl_len, LX.out]; exact hlt
        obtain ⟨x, hx⟩ : ∃ x, (fl mkS ln i (rowV l Y))[i]? = some x := ⟨_, List.getElem?_eq_getElem hil⟩
        have r1 := HI.out.cell updR_eq i x hx
        have r2 := HI.out.frozen updR_eq i
        have hP := HI.out.put updR_eq i (.int .i64 (mkS i))
        rw [updS_two, fl_set mkS hi1 (by rw [LX.out]; exact hlt)] at hP
        have hPB := HBI.out.trans (HI.out.putB updR_eq i (.int .i64 (mkS i)))
        obtain ⟨mk, HMK⟩ : ∃ z, Hid (mkS i = z) := ⟨_, rfl⟩
        rw [HMK.out] at CM hP hPB
        have HP := Lib.hid hP
        have HPB := Lib.hid hPB
        clear hP hPB hx hil
        go_wp2_with fail
        refine (CM.out _).mono ?_; rintro e w5 ⟨rfl, rfl⟩
        go_wp2
        go_roundw
        case rel => exact ⟨i + 1, by omega, by omega, by go_num, HP, HPB⟩
        case measure => simp [RowKit.intOf]; omega
      · have hge : (d : Int) ≤ i := by omega
        obtain rfl : i = d := by omega
        have hend := rowV_end mkS (n := ln) hlen LX.out
        rw [hend] at HI
        have ht : (updR R1 tr ⟨3, 1, some ⟨g, 0, none⟩, i, i, (mkd mkS l i).map (Value.int .i64)⟩) tp = ⟨E0, sz0, some ⟨hb, 0, none⟩, n0, c0, xs.set j (.slice a1 m1 c1)⟩ := (updR_ne HNE.out).trans P1.out
        have r1 := HI.out.cell ht j _ (by rw [List.getElem?_set_self HJL.out])
        have r2 := HI.out.frozen ht j
        have hP := HI.out.put ht j (.slice (some ⟨g, 0, none⟩) i i)
        rw [List.set_set] at hP
        have HE : Hid (IntsP base w R tp tr ⟨E0, sz0, some ⟨hb, 0, none⟩, n0, c0, xs⟩ j ln l (.returned (.slice (some ⟨g, 0, none⟩) ln i)) (wr.setCell ⟨hb, j, none⟩ (.slice (some ⟨g, 0, none⟩) i i))) :=
          ⟨g, i, _, rfl, hnd, hP, (updR_ne (fun e => HNE.out e.symm)).trans updR_eq, updR_eq, fun t h3 h4 => (updR_ne h3).trans ((updR_ne h4).trans (N1.out t h3 h4)), HBI.out.trans (HI.out.putB ht j _)⟩
        clear hP ht hend
        go_wp2
        go_ret
        exact HE.out
/-- Behind IntsKept: all is written over. -/
def IntsK (base : Nat) (w : World) (R : Nat × Nat × Nat → Rw) (tr : Nat × Nat × Nat) (ao : Option Addr) (d : Nat) (e : Ending) (w' : World) : Prop :=
  e = .returned (.bool true) ∧ ∃ (R' : Nat × Nat × Nat → Rw) (S' : List Int), Hold base w' R' ∧ R' tr = ⟨3, 1, ao, d, d, S'.map (Value.int .i64)⟩ ∧ (∀ t, t ≠ tr → R' t = R t) ∧ Below base w w'
set_option maxRecDepth 100000 in
set_option maxHeartbeats 3200000 in
theorem intsKept_any (H : Hold base w R) {tp tr : Nat × Nat × Nat} (hne : tp ≠ tr) {E0 : TypeId} {sz0 hb n0 c0 j : Nat} {xs : List Value} (htp : R tp = ⟨E0, sz0, some ⟨hb, 0, none⟩, n0, c0, xs⟩)
    {ao : Option Addr} {d : Nat} {S : List Int} (hj : xs[j]? = some (.slice ao d d)) (htr : R tr = ⟨3, 1, ao, d, d, S.map (Value.int .i64)⟩)
    {la : Option Addr} {ln lc : Nat} {l : List Int} (hl : ∀ wx, Below base w wx → Ls wx la ln lc l) (hS : Good l S mkS) :
    Calls Try.prog 51 #[.pointer (some ⟨hb, j, none⟩), .slice la ln lc] w (IntsK base w R tr ao d) := by
  have hl0 := hl w (Below.refl _ _)
  have hlen := hl0.len
  have hcap := H.cap htr
  have hSl : S.length = d := by have := hcap.2.2.1; simpa using this
  have hdm : (d : Int) ≤ 9223372036854775807 := by have := hcap.2.1; unfold maxLen at this; omega
  have HH := Lib.hid H
  have HTP := Lib.hid htp
  have HTR := Lib.hid htr
  have HJ := Lib.hid hj
  have HL := Lib.hid hl
  have HNE := Lib.hid hne
  have HS := Lib.hid hS
  have HC := Lib.hid hcap
  clear H htp htr hj hl hl0 hne hS hcap
  go_enter Try.func51, Try.ntmps51
  go_wp2_with fail
  go_loopw [5, 6, 7] (fun v5 v6 v7 wx => ∃ i : Nat, i ≤ d ∧ v5 = .bool true ∧ v6 = .int .i64 i ∧ Hid (Hold base wx (updR R tr ⟨3, 1, ao, d, d, (ovr (-99) i S).map (Value.int .i64)⟩)) ∧ Hid (Below base w wx)) (fun _ v6 _ _ => d - (RowKit.intOf v6).toNat)
  case atStart => exact ⟨0, Nat.zero_le _, rfl, rfl, by (show Hold _ _ _; rw [show ovr (-99) 0 S = S from rfl, updS_self HTR.out]; exact HH.out), Below.refl _ _⟩
  case round =>
    obtain ⟨i, hi, rfl, rfl, HI, HBI⟩ := hrel
    have ht : (updR R tr ⟨3, 1, ao, d, d, (ovr (-99) i S).map (Value.int .i64)⟩) tp = ⟨E0, sz0, some ⟨hb, 0, none⟩, n0, c0, xs⟩ := (updR_ne HNE.out).trans HTP.out
    have d0 := HI.out.cell ht j _ HJ.out
    by_cases hlt : i < d
    · have hlt' : (i : Int) < d := by omega
      obtain ⟨g, hg⟩ := HC.out.2.2.2.2 (by omega)
      subst hg
      have CM := Lib.hid (fun w1 => mark2_any i w1)
      have hlk : i < (ovr (-99) i S).length := by rw [ovr_len _ (by omega)]; omega
      have hSk := HS.out i (by omega)
      have d1 : wr.cell? ⟨g, i, none⟩ = some (.int .i64 (S.getD i 0)) := HI.out.cell updR_eq i _ (by rw [getD_map_int _ i hlk, ovr_get _ (by omega)])
      have d2 := HI.out.frozen updR_eq i
      have hP := HI.out.put updR_eq i (.int .i64 (-99))
      rw [updS_two, ← List.map_set, ovr_set _ (by omega)] at hP
      have HP := Lib.hid hP
      have HPB := Lib.hid (HBI.out.trans (HI.out.putB updR_eq i (.int .i64 (-99))))
      by_cases hkt : i < ln
      · have hkt' : (i : Int) < ln := by omega
        rw [hlen, if_pos hkt] at hSk
        obtain ⟨ob, fb, rfl, hcb⟩ := (HL.out wr HBI.out).at (show 0 < ln by omega)
        have d3 := hcb i hkt
        rw [hSk] at d1
        obtain ⟨x, HX⟩ : ∃ z, Hid (l.getD i 0 = z) := ⟨_, rfl⟩
        rw [HX.out] at d1 d3
        have hb := beq_same x
        obtain ⟨mk, HMK⟩ : ∃ z, Hid (mkS i = z) := ⟨_, rfl⟩
        rw [HMK.out] at CM
        clear hcb hSk hlk hP ht
        go_wp2_with fail
        refine (CM.out _).mono ?_; rintro e w5 ⟨rfl, rfl⟩
        go_wp2
        go_roundw
        case rel => exact ⟨i + 1, by omega, by first | rfl | simp, by go_num, HP, HPB⟩
        case measure => simp [RowKit.intOf]; omega
      · have hkt' : (ln : Int) ≤ i := by omega
        rw [hlen, if_neg hkt] at hSk
        rw [hSk] at d1
        obtain ⟨mk, HMK⟩ : ∃ z, Hid (mkS i = z) := ⟨_, rfl⟩
        rw [HMK.out] at d1 CM
        have hb := beq_same mk
        clear hSk hlk hP ht
        go_wp2_with fail
        refine (CM.out _).mono ?_; rintro e w5 ⟨rfl, rfl⟩
        go_wp2
        go_roundw
        case rel => exact ⟨i + 1, by omega, by first | rfl | simp, by go_num, HP, HPB⟩
        case measure => simp [RowKit.intOf]; omega
    · have hge : (d : Int) ≤ i := by omega
      have HF : Hid (IntsK base w R tr ao d (.returned (.bool true)) wr) := ⟨rfl, _, _, HI.out, updR_eq, fun t ht => updR_ne ht, HBI.out⟩
      clear ht
      go_wp2
      go_ret
      exact HF.out
end
end Go.Proofs.Ytdedbfbkakofgaa

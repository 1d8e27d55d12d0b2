/- The hand of layer 2 (abacuslaw2): a list laid in memory that is used anew, marks behind it; kept. The hand in which layer 4's laws (and later ones) lay an array: Array and Kept. Two hands of layer 4 side by side (the arguments' memory of the laws of layers 6 and 8): one state, and what each call makes of it. -/
import Derived.Test.YthackmkdicpdeaaMerge
import Derived.Deep.CutBlock
import Derived.Deep.RegionHeld3
namespace Go.Proofs.Ythackmkdicpdeaa
open Go.RowKit Go.Lib
set_option linter.unusedVariables false
set_option linter.unusedSimpArgs false
attribute [local go_sem] alloc_drewN setCell_drewN
section
variable {base : Nat} {w : World} {R : Nat × Nat × Nat → Rw}
theorem updS_self {t : Nat × Nat × Nat} {r : Rw} (h : R t = r) : updR R t r = R := by
  funext s
  by_cases e : s = t
  · subst e; rw [updR_eq, h]
  · rw [updR_ne e]
theorem updS_two {t : Nat × Nat × Nat} {r r' : Rw} : updR (updR R t r) t r' = updR R t r' := by
  funext s
  by_cases e : s = t
  · subst e; rw [updR_eq, updR_eq]
  · rw [updR_ne e, updR_ne e, updR_ne e]
/-- append of a list that is read to a row that is held. -/
theorem Hold.wpList_ls {P : Program} (h : Hold base w R) {ops : Array Oper} {rest : List Oper} {o : Oper} {a : Act} {Q : Exit → Act → World → Prop} (hgd : o.guard = none) (s x : Operand) (t : TypeId)
    (ho : o.op = .call { callee := .builtin .append, args := #[s, x], argTypes := #[t, t] })
    (tg : Nat × Nat × Nat) (e : TypeId) (i : TypeInfo) (ht : P.underlying t = some (.slice e)) (hi : P.info? e = some i) (hz : i.zero = some (.int .i64 0)) (hsize : i.size = 1) (hby : i.bytes = 8)
    {ao : Option Addr} {n c : Nat} {xs : List Int} (hr : R tg = ⟨e, 1, ao, n, c, xs.map (Value.int .i64)⟩) (hs : a.eval s = .slice ao n c)
    {la : Option Addr} {m lc : Nat} {zs : List Int} (hx : a.eval x = .slice la m lc) (hL : Ls w la m lc zs) (h63 : (n + m) * 8 ≤ 140737488355328)
    (hk : ∀ bo d w', Hold base w' (updR R tg ⟨e, 1, bo, n + m, d, (xs ++ zs).map (Value.int .i64)⟩) → Below base w w' → (0 < m → bo ≠ none) → wpList P ops Q rest (a.put o.dst (.slice bo (n + m) d)) w') : wpList P ops Q (o :: rest) a w :=
  wpList_plain hgd fun _ hK => by
    have hown := h.own tg
    rw [hr] at hown
    obtain ⟨bo, d, w', hrun, h2, h3, h4, h5⟩ := run_append_loc (P := P) w base t o.type e i ht hi hz hsize hby (.slice ao n c) n xs hown hL h63 h.base
    unfold Oper.wp execOp
    simp only [ho, resolve, invoke, builtin, Sem.run_bind, Sem.run_pure, Result.andThen_ok, List.map_toArray, List.map_cons, List.map_nil, hs, hx, hrun]
    refine hK _ _ (hk bo d w' (h.grow tg h2 (by rw [hr]; exact h3) fun g hg => ?_) ((Below.refl _ _).grown h3 h.base fun k hk => (Rw.own.lt hown hk).1) h5)
    rcases h4 g hg with h6 | h6
    · left; rw [hr]; exact h6
    · right; omega
theorem mark2_any (i : Nat) (w : World) : Calls Try.prog 71 #[.int .i64 i] w (RetS w (.int .i64 (mkS i))) := by
  unfold mkS
  go_enter Try.func71, Try.ntmps71
  go_wp2
  go_ret
  exact RetS.mk rfl
/-- Behind Ints: the list in the hand's memory, marks behind it. -/
def IntsP (base : Nat) (w : World) (R : Nat × Nat × Nat → Rw) (tp tr : Nat × Nat × Nat) (P0 : Rw) (j ln : Nat) (l : List Int) (e : Ending) (w' : World) : Prop :=
  ∃ (g d : Nat) (R' : Nat × Nat × Nat → Rw), e = .returned (.slice (some ⟨g, 0, none⟩) ln d) ∧ ln + 2 ≤ d ∧ Hold base w' R' ∧ R' tr = ⟨3, 1, some ⟨g, 0, none⟩, d, d, (mkd mkS l d).map (Value.int .i64)⟩ ∧
    R' tp = { P0 with xs := P0.xs.set j (.slice (some ⟨g, 0, none⟩) d d) } ∧ (∀ t, t ≠ tp → t ≠ tr → R' t = R t) ∧ Below base w w'
set_option maxRecDepth 100000 in
set_option maxHeartbeats 3200000 in
theorem ints_any (H : Hold base w R) {tp tr : Nat × Nat × Nat} (hne : tp ≠ tr) {E0 : TypeId} {sz0 hb n0 c0 j : Nat} {xs : List Value} (htp : R tp = ⟨E0, sz0, some ⟨hb, 0, none⟩, n0, c0, xs⟩)
    {ao : Option Addr} {m c : Nat} {ys : List Value} (hj : xs[j]? = some (.slice ao m c)) (htr : R tr = ⟨3, 1, ao, m, c, ys⟩)
    {la : Option Addr} {ln lc : Nat} {l : List Int} (hl : ∀ wx, Below base w wx → Ls wx la ln lc l) :
    Calls Try.prog 32 #[.pointer (some ⟨hb, j, none⟩), .slice la ln lc] w (IntsP base w R tp tr ⟨E0, sz0, some ⟨hb, 0, none⟩, n0, c0, xs⟩ j ln l) := by
  have hl0 := hl w (Below.refl _ _)
  have hbig := hl0.big
  have hlen := hl0.len
  have d0 : w.cell? ⟨hb, j, none⟩ = some (.slice ao m c) := H.cell htp j _ hj
  have f0 := H.frozen htp j
  have HH := Lib.hid H
  have HTP := Lib.hid htp
  have HTR := Lib.hid htr
  have HJ := Lib.hid hj
  have HL := Lib.hid hl
  have HNE := Lib.hid hne
  clear H htp htr hj hl hl0 hne
  go_enter Try.func32, Try.ntmps32
  go_upto_if 17 with fail
  go_cut [] from 18 to 20 (fun wx => ∃ (a1 : Option Addr) (m1 c1 : Nat) (R1 : Nat × Nat × Nat → Rw), Hid (Hold base wx R1 ∧ R1 tr = ⟨3, 1, a1, 0, c1, []⟩ ∧ R1 tp = ⟨E0, sz0, some ⟨hb, 0, none⟩, n0, c0, xs.set j (.slice a1 m1 c1)⟩ ∧ (∀ t, t ≠ tp → t ≠ tr → R1 t = R t) ∧ Below base w wx))
  case first =>
    by_cases hc : (ln : Int) + 70000 < c
    · go_wp2_with fail
      go_meet
      have h1 := HH.out.put HTP.out j (.slice none 0 0)
      have h2 := h1.add tr (r := ⟨3, 1, none, 0, 0, []⟩) (World.ownsRow_nil _ _ _ _) fun s _ g hg => by cases hg
      exact ⟨none, 0, 0, _, ⟨h2, updR_eq, (updR_ne HNE.out).trans updR_eq, fun t h3 h4 => (updR_ne h4).trans (updR_ne h3), HH.out.putB HTP.out j _⟩⟩
    · go_wp2_with fail
      go_meet
      have ho := HH.out.own tr
      rw [HTR.out] at ho
      have h1 := HH.out.add tr (r := ⟨3, 1, ao, 0, c, []⟩) (own_shut ho) fun s hs g hg hg' => HH.out.dis s tr hs g hg' (by rw [HTR.out]; cases ao <;> exact hg)
      refine ⟨ao, m, c, _, ⟨h1, updR_eq, (updR_ne HNE.out).trans (HTP.out.trans ?_), fun t h3 h4 => updR_ne h4, Below.refl _ _⟩⟩
      congr 1
      obtain ⟨hlt, he⟩ := List.getElem?_eq_some_iff.1 HJ.out
      rw [← he, List.set_getElem_self]
  case rest =>
    obtain ⟨a1, m1, c1, R1, hF⟩ := hcut
    obtain ⟨W1, hW1⟩ : ∃ z : World, z = wc := ⟨_, rfl⟩
    subst hW1
    obtain ⟨h1, h2, h3, h4, h5⟩ := hF.out
    have hjl : j < xs.length := (List.getElem?_eq_some_iff.1 HJ.out).1
    have HJL := Lib.hid hjl
    have H1 := Lib.hid h1
    have T1 := Lib.hid h2
    have P1 := Lib.hid h3
    have N1 := Lib.hid h4
    have B1 := Lib.hid h5
    have e0 : W1.cell? ⟨hb, j, none⟩ = some (.slice a1 m1 c1) := h1.cell h3 j _ (by rw [List.getElem?_set_self hjl])
    have hc1 : (0 : Int) ≤ c1 := by omega
    obtain ⟨i0, hi0, hz0, hz1, hz2⟩ := info_parts (P := Try.prog) (e := 3) (z := .int .i64 0) (size := 1) (bytes := 8) (by kernel_rfl)
    have HLS : Hid (Ls W1 la ln lc l) := HL.out W1 h5
    have h63 : (0 + ln) * 8 ≤ 140737488355328 := by omega
    have h64 : (ln + 2) * 8 ≤ 140737488355328 := by omega
    clear h1 h2 h3 h4 h5 hjl hF d0 f0
    go_wp2_with (at_builtin; refine Hold.wpList_ls H1.out rfl _ _ 25 rfl tr 3 i0 Try.underlying25 hi0 hz0 hz1 hz2 (xs := []) T1.out rfl rfl HLS.out h63 ?_)
    intro b2 d2 w2 hH2 hB2 hn2
    have H2 : Hid (Hold base (w2.alloc (.cells #[.int .i64 0, .int .i64 0] 3)) (updR R1 tr ⟨3, 1, b2, ln, d2, l.map (Value.int .i64)⟩)) := hH2.via (abal _ _)
    have HL0 := Lib.hid (lit00 w2 3)
    have B2 : Hid (Below base w (w2.alloc (.cells #[.int .i64 0, .int .i64 0] 3))) := (B1.out.trans hB2).trans ((abal _ _).mono hH2.base)
    clear hH2 hB2 hn2 e0
    go_wp2_with (at_builtin; refine Hold.wpList_ls H2.out rfl _ _ 25 rfl tr 3 i0 Try.underlying25 hi0 hz0 hz1 hz2 (xs := l) updR_eq rfl rfl HL0.out h64 ?_)
    intro b3 d w3 hH3 hB3 hn3
    rw [updS_two] at hH3
    have hn3' := hn3
    have hcap := hH3.cap updR_eq
    have ho := hH3.own tr
    rw [updR_eq] at ho
    simp only [Rw.own, Rw.v] at ho
    obtain ⟨q1, q2, Y, q3, q4⟩ := own_full ho
    have q5 : w3.ownsRow base 3 1 (.slice b3 d d) d (rowV l Y) := by simpa [rowV] using q4
    have hg : ∃ g, b3 = some ⟨g, 0, none⟩ := hcap.2.2.2.2 (by omega)
    obtain ⟨g, rfl⟩ := hg
    have hH4 := hH3.add tr (r := ⟨3, 1, some ⟨g, 0, none⟩, d, d, rowV l Y⟩) q5 fun s hs k hk hk' => hH3.dis s tr hs k hk' (by rw [updR_eq]; exact hk)
    rw [updS_two] at hH4
    have LX : Hid ((rowV l Y).length = d) := by show _ = _; have := q5.1; rw [Nat.mul_one] at this; exact this
    have H4 := Lib.hid hH4
    have B4 := Lib.hid (B2.out.trans hB3)
    have hdm : (d : Int) ≤ 9223372036854775807 := by unfold maxLen at q2; omega
    have hd0 : (0 : Int) ≤ d := by omega
    have hnd : ln + 2 ≤ d := q1
    have hni : (ln : Int) ≤ d := by omega
    clear hH3 hB3 hn3 hn3' hcap ho q1 q2 q3 q4 q5 hH4 H2 B2 HL0
    go_wp2_with fail
    go_loopw [7] (fun v7 wx => ∃ i : Nat, ln ≤ i ∧ i ≤ d ∧ v7 = .int .i64 i ∧ Hid (Hold base wx (updR R1 tr ⟨3, 1, some ⟨g, 0, none⟩, d, d, fl mkS ln i (rowV l Y)⟩)) ∧ Hid (Below base w wx)) (fun v7 _ => d - (RowKit.intOf v7).toNat)
    case atStart => exact ⟨ln, Nat.le_refl _, by omega, rfl, by (show Hold _ _ _; rw [fl_start]; exact H4.out), B4⟩
    case round =>
      obtain ⟨i, hi1, hi2, rfl, HI, HBI⟩ := hrel
      by_cases hlt : i < d
      · have hlt' : (i : Int) < d := by omega
        have CM := Lib.hid (fun w1 => mark2_any i w1)
        have hil : i < (fl mkS ln i (rowV l Y)).length := by rw [fl_len, LX.out]; exact hlt
        obtain ⟨x, hx⟩ : ∃ x, (fl mkS ln i (rowV l Y))[i]? = some x := ⟨_, List.getElem?_eq_getElem hil⟩
        have r1 := HI.out.cell updR_eq i x hx
        have r2 := HI.out.frozen updR_eq i
        have hP := HI.out.put updR_eq i (.int .i64 (mkS i))
        rw [updS_two, fl_set mkS hi1 (by rw [LX.out]; exact hlt)] at hP
        have hPB := HBI.out.trans (HI.out.putB updR_eq i (.int .i64 (mkS i)))
        obtain ⟨mk, HMK⟩ : ∃ z, Hid (mkS i = z) := ⟨_, rfl⟩
        rw [HMK.out] at CM hP hPB
        have HP := Lib.hid hP
        have HPB := Lib.hid hPB
        clear hP hPB hx hil
        go_wp2_with fail
        refine (CM.out _).mono ?_; rintro e w5 ⟨rfl, rfl⟩
        go_wp2
        go_roundw
        case rel => exact ⟨i + 1, by omega, by omega, by go_num, HP, HPB⟩
        case measure => simp [RowKit.intOf]; omega
      · have hge : (d : Int) ≤ i := by omega
        obtain rfl : i = d := by omega
        have hend := rowV_end mkS (n := ln) hlen LX.out
        rw [hend] at HI
        have ht : (updR R1 tr ⟨3, 1, some ⟨g, 0, none⟩, i, i, (mkd mkS l i).map (Value.int .i64)⟩) tp = ⟨E0, sz0, some ⟨hb, 0, none⟩, n0, c0, xs.set j (.slice a1 m1 c1)⟩ := (updR_ne HNE.out).trans P1.out
        have r1 := HI.out.cell ht j _ (by rw [List.getElem?_set_self HJL.out])
        have r2 := HI.out.frozen ht j
        have hP := HI.out.put ht j (.slice (some ⟨g, 0, none⟩) i i)
        rw [List.set_set] at hP
        have HE : Hid (IntsP base w R tp tr ⟨E0, sz0, some ⟨hb, 0, none⟩, n0, c0, xs⟩ j ln l (.returned (.slice (some ⟨g, 0, none⟩) ln i)) (wr.setCell ⟨hb, j, none⟩ (.slice (some ⟨g, 0, none⟩) i i))) :=
          ⟨g, i, _, rfl, hnd, hP, (updR_ne (fun e => HNE.out e.symm)).trans updR_eq, updR_eq, fun t h3 h4 => (updR_ne h3).trans ((updR_ne h4).trans (N1.out t h3 h4)), HBI.out.trans (HI.out.putB ht j _)⟩
        clear hP ht hend
        go_wp2
        go_ret
        exact HE.out
/-- Behind IntsKept: all is written over. -/
def IntsK (base : Nat) (w : World) (R : Nat × Nat × Nat → Rw) (tr : Nat × Nat × Nat) (ao : Option Addr) (d : Nat) (e : Ending) (w' : World) : Prop :=
  e = .returned (.bool true) ∧ ∃ (R' : Nat × Nat × Nat → Rw) (S' : List Int), Hold base w' R' ∧ R' tr = ⟨3, 1, ao, d, d, S'.map (Value.int .i64)⟩ ∧ (∀ t, t ≠ tr → R' t = R t) ∧ Below base w w'
set_option maxRecDepth 100000 in
set_option maxHeartbeats 3200000 in
theorem intsKept_any (H : Hold base w R) {tp tr : Nat × Nat × Nat} (hne : tp ≠ tr) {E0 : TypeId} {sz0 hb n0 c0 j : Nat} {xs : List Value} (htp : R tp = ⟨E0, sz0, some ⟨hb, 0, none⟩, n0, c0, xs⟩)
    {ao : Option Addr} {d : Nat} {S : List Int} (hj : xs[j]? = some (.slice ao d d)) (htr : R tr = ⟨3, 1, ao, d, d, S.map (Value.int .i64)⟩)
    {la : Option Addr} {ln lc : Nat} {l : List Int} (hl : ∀ wx, Below base w wx → Ls wx la ln lc l) (hS : Good l S mkS) :
    Calls Try.prog 33 #[.pointer (some ⟨hb, j, none⟩), .slice la ln lc] w (IntsK base w R tr ao d) := by
  have hl0 := hl w (Below.refl _ _)
  have hlen := hl0.len
  have hcap := H.cap htr
  have hSl : S.length = d := by have := hcap.2.2.1; simpa using this
  have hdm : (d : Int) ≤ 9223372036854775807 := by have := hcap.2.1; unfold maxLen at this; omega
  have HH := Lib.hid H
  have HTP := Lib.hid htp
  have HTR := Lib.hid htr
  have HJ := Lib.hid hj
  have HL := Lib.hid hl
  have HNE := Lib.hid hne
  have HS := Lib.hid hS
  have HC := Lib.hid hcap
  clear H htp htr hj hl hl0 hne hS hcap
  go_enter Try.func33, Try.ntmps33
  go_wp2_with fail
  go_loopw [5, 6, 7] (fun v5 v6 v7 wx => ∃ i : Nat, i ≤ d ∧ v5 = .bool true ∧ v6 = .int .i64 i ∧ Hid (Hold base wx (updR R tr ⟨3, 1, ao, d, d, (ovr (-99) i S).map (Value.int .i64)⟩)) ∧ Hid (Below base w wx)) (fun _ v6 _ _ => d - (RowKit.intOf v6).toNat)
  case atStart => exact ⟨0, Nat.zero_le _, rfl, rfl, by (show Hold _ _ _; rw [show ovr (-99) 0 S = S from rfl, updS_self HTR.out]; exact HH.out), Below.refl _ _⟩
  case round =>
    obtain ⟨i, hi, rfl, rfl, HI, HBI⟩ := hrel
    have ht : (updR R tr ⟨3, 1, ao, d, d, (ovr (-99) i S).map (Value.int .i64)⟩) tp = ⟨E0, sz0, some ⟨hb, 0, none⟩, n0, c0, xs⟩ := (updR_ne HNE.out).trans HTP.out
    have d0 := HI.out.cell ht j _ HJ.out
    by_cases hlt : i < d
    · have hlt' : (i : Int) < d := by omega
      obtain ⟨g, hg⟩ := HC.out.2.2.2.2 (by omega)
      subst hg
      have CM := Lib.hid (fun w1 => mark2_any i w1)
      have hlk : i < (ovr (-99) i S).length := by rw [ovr_len _ (by omega)]; omega
      have hSk := HS.out i (by omega)
      have d1 : wr.cell? ⟨g, i, none⟩ = some (.int .i64 (S.getD i 0)) := HI.out.cell updR_eq i _ (by rw [getD_map_int _ i hlk, ovr_get _ (by omega)])
      have d2 := HI.out.frozen updR_eq i
      have hP := HI.out.put updR_eq i (.int .i64 (-99))
      rw [updS_two, ← List.map_set, ovr_set _ (by omega)] at hP
      have HP := Lib.hid hP
      have HPB := Lib.hid (HBI.out.trans (HI.out.putB updR_eq i (.int .i64 (-99))))
      by_cases hkt : i < ln
      · have hkt' : (i : Int) < ln := by omega
        rw [hlen, if_pos hkt] at hSk
        obtain ⟨ob, fb, rfl, hcb⟩ := (HL.out wr HBI.out).at (show 0 < ln by omega)
        have d3 := hcb i hkt
        rw [hSk] at d1
        obtain ⟨x, HX⟩ : ∃ z, Hid (l.getD i 0 = z) := ⟨_, rfl⟩
        rw [HX.out] at d1 d3
        have hb := beq_same x
        obtain ⟨mk, HMK⟩ : ∃ z, Hid (mkS i = z) := ⟨_, rfl⟩
        rw [HMK.out] at CM
        clear hcb hSk hlk hP ht
        go_wp2_with fail
        refine (CM.out _).mono ?_; rintro e w5 ⟨rfl, rfl⟩
        go_wp2
        go_roundw
        case rel => exact ⟨i + 1, by omega, by first | rfl | simp, by go_num, HP, HPB⟩
        case measure => simp [RowKit.intOf]; omega
      · have hkt' : (ln : Int) ≤ i := by omega
        rw [hlen, if_neg hkt] at hSk
        rw [hSk] at d1
        obtain ⟨mk, HMK⟩ : ∃ z, Hid (mkS i = z) := ⟨_, rfl⟩
        rw [HMK.out] at d1 CM
        have hb := beq_same mk
        clear hSk hlk hP ht
        go_wp2_with fail
        refine (CM.out _).mono ?_; rintro e w5 ⟨rfl, rfl⟩
        go_wp2
        go_roundw
        case rel => exact ⟨i + 1, by omega, by first | rfl | simp, by go_num, HP, HPB⟩
        case measure => simp [RowKit.intOf]; omega
    · have hge : (d : Int) ≤ i := by omega
      have HF : Hid (IntsK base w R tr ao d (.returned (.bool true)) wr) := ⟨rfl, _, _, HI.out, updR_eq, fun t ht => updR_ne ht, HBI.out⟩
      clear ht
      go_wp2
      go_ret
      exact HF.out
end
end Go.Proofs.Ythackmkdicpdeaa
namespace Go.Proofs.Ythackmkdicpdeaa
open Go.RowKit Go.Lib
set_option linter.unusedVariables false
set_option linter.unusedSimpArgs false
attribute [local go_sem] alloc_drewN setCell_drewN
variable {base : Nat} {w w' : World} {R : Nat × Nat × Nat → Rw}
def mkQ (i : Nat) : Int := wrap64 (-770000 - (i : Int))
set_option maxHeartbeats 400000 in
theorem mark4_any (i : Nat) (w : World) : Calls Try.prog 73 #[.int .i64 i] w (RetS w (.int .i64 (mkQ i))) := by
  go_enter Try.func73, Try.ntmps73
  go_wp2
  go_ret
  exact RetS.mk rfl
section
section
variable {P : Program}
theorem Hold.step_ls (h : Hold base w R) {ops : Array Oper} {o : Oper} {a : Act} {K : Act → World → Prop} {Q : Exit → Act → World → Prop} {Z : Prop} (hgd : o.guard = none) (s x : Operand) (t : TypeId)
    (ho : o.op = .call { callee := .builtin .append, args := #[s, x], argTypes := #[t, t] })
    (tg : Nat × Nat × Nat) (e : TypeId) (i : TypeInfo) (ht : P.underlying t = some (.slice e)) (hi : P.info? e = some i) (hz : i.zero = some (.int .i64 0)) (hsize : i.size = 1) (hby : i.bytes = 8)
    {ao : Option Addr} {n c : Nat} {xs : List Int} (hr : R tg = ⟨e, 1, ao, n, c, xs.map (Value.int .i64)⟩) (hs : a.eval s = .slice ao n c)
    {la : Option Addr} {m lc : Nat} {zs : List Int} (hx : a.eval x = .slice la m lc) (hL : Ls w la m lc zs) (h63 : (n + m) * 8 ≤ 140737488355328)
    (hk : ∀ bo d w', Hold base w' (updR R tg ⟨e, 1, bo, n + m, d, (xs ++ zs).map (Value.int .i64)⟩) → Below base w w' → (0 < m → bo ≠ none) → K (a.put o.dst (.slice bo (n + m) d)) w') :
    if Region.wanted o (yielded ops a.tmps) = true then Oper.wp P o a w K Q else Z := by
  have hw : Region.wanted o (yielded ops a.tmps) = true := by simp [Region.wanted, hgd]
  rw [if_pos hw]
  have hown := h.own tg
  rw [hr] at hown
  obtain ⟨bo, d, w', hrun, h2, h3, h4, h5⟩ := run_append_loc (P := P) w base t o.type e i ht hi hz hsize hby (.slice ao n c) n xs hown hL h63 h.base
  unfold Oper.wp execOp
  simp only [ho, resolve, invoke, builtin, Sem.run_bind, Sem.run_pure, Result.andThen_ok, List.map_toArray, List.map_cons, List.map_nil, hs, hx, hrun]
  exact hk bo d w' (h.grow tg h2 (by rw [hr]; exact h3) fun g hg => by
    rcases h4 g hg with h6 | h6
    · left; rw [hr]; exact h6
    · right; omega) ((Below.refl _ _).grown h3 h.base fun k hk => (Rw.own.lt hown hk).1) h5
end
/-- Behind Array: the array in the hand's memory, marks behind its lists. -/
def Arr4P (base : Nat) (w : World) (R : Nat × Nat × Nat → Rw) (tp tr ta : Nat × Nat × Nat) (P0 : Rw) (j sn an : Nat) (s a : List Int) (e : Ending) (w' : World) : Prop :=
  ∃ (g d g2 d2 : Nat) (R' : Nat × Nat × Nat → Rw), e = .returned (.agg #[.slice (some ⟨g, 0, none⟩) sn d, .slice (some ⟨g2, 0, none⟩) an d2]) ∧ sn + 2 ≤ d ∧ an + 2 ≤ d2 ∧ Hold base w' R' ∧
    R' tr = ⟨3, 1, some ⟨g, 0, none⟩, d, d, (mkd mkS s d).map (Value.int .i64)⟩ ∧ R' ta = ⟨2, 1, some ⟨g2, 0, none⟩, d2, d2, (mkd mkQ a d2).map (Value.int .i64)⟩ ∧
    R' tp = { P0 with xs := (P0.xs.set (j + 1) (.slice (some ⟨g2, 0, none⟩) d2 d2)).set j (.slice (some ⟨g, 0, none⟩) d d) } ∧ (∀ t, t ≠ tp → t ≠ tr → t ≠ ta → R' t = R t) ∧ Below base w w'
set_option maxRecDepth 100000 in
set_option maxHeartbeats 3200000 in
theorem array4_any (H : Hold base w R) {tp tr ta : Nat × Nat × Nat} (hne : tp ≠ tr ∧ tp ≠ ta ∧ tr ≠ ta) (h9 : tp.1 ≠ 9 ∧ tr.1 ≠ 9 ∧ ta.1 ≠ 9) (hn9 : R (9, 9, 0) = Rw.nil ∧ R (9, 9, 1) = Rw.nil)
    {E0 : TypeId} {sz0 hb n0 c0 j : Nat} {xs : List Value} (htp : R tp = ⟨E0, sz0, some ⟨hb, 0, none⟩, n0, c0, xs⟩)
    {ho : Option Addr} {hm hc : Nat} {ys : List Value} (hj : xs[j]? = some (.slice ho hm hc)) (htr : R tr = ⟨3, 1, ho, hm, hc, ys⟩)
    {ao : Option Addr} {m c : Nat} {zs : List Value} (hj2 : xs[j + 1]? = some (.slice ao m c)) (hta : R ta = ⟨2, 1, ao, m, c, zs⟩)
    {A : Ar} (hA : ∀ wx, Below base w wx → A.Is wx) :
    Calls Try.prog 35 #[.pointer (some ⟨hb, j, none⟩), A.v] w (Arr4P base w R tp tr ta ⟨E0, sz0, some ⟨hb, 0, none⟩, n0, c0, xs⟩ j A.sn A.an A.s A.a) := by
  obtain ⟨sa, sn, sc, aa, an, ac, s, a⟩ := A
  simp only [Ar.v]
  have hI := hA w (Below.refl _ _)
  have hbig := hI.ats.big
  have hlen : a.length = an := hI.ats.len
  simp only at hbig
  obtain ⟨n1, n2, n3⟩ := hne
  obtain ⟨q1, q2, q3⟩ := h9
  have m1 : ∀ t : Nat × Nat × Nat, t.1 ≠ 9 → t ≠ (9, 9, 0) ∧ t ≠ (9, 9, 1) := fun t ht => ⟨fun e => ht (by rw [e]), fun e => ht (by rw [e])⟩
  obtain ⟨W, HW⟩ : ∃ z, Hid ((w.alloc (.cells #[.slice sa sn sc, .slice aa an ac] 45)).alloc (.cells #[.slice none 0 0, .slice none 0 0] 45) = z) := ⟨_, rfl⟩
  have h0 := (H.alloc (9, 9, 0) (cs := #[.slice sa sn sc, .slice aa an ac]) (E := 45) (sz := 2) (n := 1) rfl (by decide)).alloc (9, 9, 1) (cs := #[.slice none 0 0, .slice none 0 0]) (E := 45) (sz := 2) (n := 1) rfl (by decide)
  have hB0 : Below base w W := by rw [← HW.out]; exact ((abal _ _).mono H.base).trans ((abal _ _).mono (by simp; have := H.base; omega))
  rw [HW.out] at h0
  have sz1 : (w.alloc (.cells #[.slice sa sn sc, .slice aa an ac] 45)).heap.size = w.heap.size + 1 := by simp
  rw [sz1] at h0
  obtain ⟨b, HBB⟩ : ∃ z, Hid (w.heap.size = z) := ⟨_, rfl⟩
  obtain ⟨R0, HR0⟩ : ∃ z, Hid (updR (updR R (9, 9, 0) ⟨45, 2, some ⟨w.heap.size, 0, none⟩, 1, 1, (#[.slice sa sn sc, .slice aa an ac] : Array Value).toList⟩) (9, 9, 1) ⟨45, 2, some ⟨w.heap.size + 1, 0, none⟩, 1, 1, (#[.slice none 0 0, .slice none 0 0] : Array Value).toList⟩ = z) := ⟨_, rfl⟩
  rw [HR0.out] at h0
  have k0 : Hid (R0 (9, 9, 0) = ⟨45, 2, some ⟨b, 0, none⟩, 1, 1, [.slice sa sn sc, .slice aa an ac]⟩) := by show _ = _; rw [← HR0.out, updR_ne (by simp), updR_eq, HBB.out]
  have k1 : Hid (R0 (9, 9, 1) = ⟨45, 2, some ⟨b + 1, 0, none⟩, 1, 1, [.slice none 0 0, .slice none 0 0]⟩) := by show _ = _; rw [← HR0.out, updR_eq, HBB.out]
  have kN : Hid (∀ t : Nat × Nat × Nat, t.1 ≠ 9 → R0 t = R t) := fun t ht => by rw [← HR0.out, updR_ne (m1 t ht).2, updR_ne (m1 t ht).1]
  have kM : Hid (∀ t : Nat × Nat × Nat, t ≠ (9, 9, 0) → t ≠ (9, 9, 1) → R0 t = R t) := fun t h1 h2 => by rw [← HR0.out, updR_ne h2, updR_ne h1]
  have HH := Lib.hid h0
  have HTP := Lib.hid ((kN.out tp q1).trans htp)
  have HTR := Lib.hid ((kN.out tr q2).trans htr)
  have HTA := Lib.hid ((kN.out ta q3).trans hta)
  have HJ := Lib.hid hj
  have HJ2 := Lib.hid hj2
  have HAA := Lib.hid hA
  have HNE := Lib.hid (And.intro n1 (And.intro n2 n3))
  have H9 := Lib.hid (And.intro (m1 tp q1) (And.intro (m1 tr q2) (m1 ta q3)))
  have HN9 := Lib.hid hn9
  have HB0 := Lib.hid hB0
  have d0 : W.cell? ⟨hb, j + 1, none⟩ = some (.slice ao m c) := h0.cell HTP.out (j + 1) _ hj2
  have f0 := h0.frozen HTP.out (j + 1)
  have x1 : W.cell? ⟨b, 1, none⟩ = some (.slice aa an ac) := h0.cell k0.out 1 _ rfl
  have hc0 : (0 : Int) ≤ c := by omega
  clear H htp htr hta hj hj2 hA hI h0 n1 n2 n3 q1 q2 q3 m1 hn9 hB0 sz1 HR0
  go_enter Try.func35, Try.ntmps35
  go_upto_region 1 with fail
  rw [HW.out, HBB.out]
  go_upto_if 18 with fail
  go_cut [] from 19 to 21 (fun wx => ∃ (a1 : Option Addr) (m1 c1 : Nat) (R1 : Nat × Nat × Nat → Rw), Hid (Hold base wx R1 ∧ R1 ta = ⟨2, 1, a1, 0, c1, []⟩ ∧ R1 tp = ⟨E0, sz0, some ⟨hb, 0, none⟩, n0, c0, xs.set (j + 1) (.slice a1 m1 c1)⟩ ∧ (∀ t, t ≠ tp → t ≠ ta → R1 t = R0 t) ∧ Below base w wx))
  case first =>
    by_cases hc : (an : Int) + 70000 < c
    · go_wp2_with fail
      go_meet
      have h1 := HH.out.put HTP.out (j + 1) (.slice none 0 0)
      have h2 := h1.add ta (r := ⟨2, 1, none, 0, 0, []⟩) (World.ownsRow_nil _ _ _ _) fun s _ g hg => by cases hg
      exact ⟨none, 0, 0, _, ⟨h2, updR_eq, (updR_ne HNE.out.2.1).trans updR_eq, fun t h3 h4 => (updR_ne h4).trans (updR_ne h3), HB0.out.trans (HH.out.putB HTP.out (j + 1) _)⟩⟩
    · go_wp2_with fail
      go_meet
      have ho := HH.out.own ta
      rw [HTA.out] at ho
      have h1 := HH.out.add ta (r := ⟨2, 1, ao, 0, c, []⟩) (own_shut ho) fun s hs g hg hg' => HH.out.dis s ta hs g hg' (by rw [HTA.out]; cases ao <;> exact hg)
      refine ⟨ao, m, c, _, ⟨h1, updR_eq, (updR_ne HNE.out.2.1).trans (HTP.out.trans ?_), fun t h3 h4 => updR_ne h4, HB0.out⟩⟩
      congr 1
      obtain ⟨hlt, he⟩ := List.getElem?_eq_some_iff.1 HJ2.out
      rw [← he, List.set_getElem_self]
  case rest =>
    obtain ⟨a1, m1, c1, R1, hF⟩ := hcut
    obtain ⟨W1, hW1⟩ : ∃ z : World, z = wc := ⟨_, rfl⟩
    subst hW1
    obtain ⟨h1, h2, h3, h4, h5⟩ := hF.out
    obtain ⟨⟨u1, u2⟩, ⟨u3, u4⟩, u5, u6⟩ := H9.out
    obtain ⟨v1, v2, v3⟩ := HNE.out
    have hjl : j + 1 < xs.length := (List.getElem?_eq_some_iff.1 HJ2.out).1
    have HJL := Lib.hid hjl
    have H1 := Lib.hid (h1.via (adrew1 _))
    have T1 := Lib.hid h2
    have P1 := Lib.hid h3
    have N1 := Lib.hid h4
    have B1 := Lib.hid (h5.trans ((adrew1 _).mono h1.base))
    have K0 := Lib.hid ((h4 (9, 9, 0) u1.symm u5.symm).trans k0.out)
    have e0 : W1.cell? ⟨hb, j + 1, none⟩ = some (.slice a1 m1 c1) := h1.cell h3 (j + 1) _ (by rw [List.getElem?_set_self hjl])
    have x1' : W1.cell? ⟨b, 1, none⟩ = some (.slice aa an ac) := h1.cell K0.out 1 _ rfl
    have hc1 : (0 : Int) ≤ c1 := by omega
    obtain ⟨i0, hi0, hz0, hz1, hz2⟩ := info_parts (P := Try.prog) (e := 2) (z := .int .i64 0) (size := 1) (bytes := 8) (by kernel_rfl)
    have HLS : Hid (Ls W1.drew aa an ac a) := (HAA.out _ B1.out).ats
    have h63 : (0 + an) * 8 ≤ 140737488355328 := by omega
    have h64 : (an + 2) * 8 ≤ 140737488355328 := by omega
    clear h1 h2 h3 h4 h5 hjl hF d0 f0 x1 u1 u2 u3 u4 u5 u6 v1 v2 v3
    go_upto_region 4 with fail
    go_cut [6] from 22 to 29 (fun v6 wx => ∃ (b2 : Option Addr) (d2 : Nat), v6 = .slice b2 an d2 ∧ Hid (Hold base wx (updR R1 ta ⟨2, 1, b2, an, d2, a.map (Value.int .i64)⟩)) ∧ Hid (Below base w wx))
    case first =>
      go_region_law (first
        | (refine Hold.step_ls H1.out rfl _ _ 28 (by rfl) ta 2 i0 Try.underlying28 hi0 hz0 hz1 hz2 (xs := []) T1.out (by rfl) (by rfl) HLS.out h63 ?_; intro b2 d2 w2 hH2 hB2 hn2))
      all_goals
        have HY : Hid (Hold base w2 (updR R1 ta ⟨2, 1, b2, an, d2, a.map (Value.int .i64)⟩)) := by
          show Hold _ _ _
          simpa using hH2
        have HYB := Lib.hid (B1.out.trans hB2)
        clear hH2 hB2 hn2
        go_wp2_with fail
        go_meet
        exact ⟨b2, d2, by first | rfl | simp, HY, HYB⟩
    case rest =>
    obtain ⟨b2, d2, rfl, HC2, HCB⟩ := hcut
    obtain ⟨w2, hw2⟩ : ∃ z : World, z = wc := ⟨_, rfl⟩
    subst hw2
    have H2 : Hid (Hold base (w2.alloc (.cells #[.int .i64 0, .int .i64 0] 2)) (updR R1 ta ⟨2, 1, b2, an, d2, a.map (Value.int .i64)⟩)) := HC2.out.via (abal w2 (.cells #[.int .i64 0, .int .i64 0] 2))
    have HL0 := Lib.hid (lit00 w2 2)
    have B2 : Hid (Below base w (w2.alloc (.cells #[.int .i64 0, .int .i64 0] 2))) := HCB.out.trans ((abal _ _).mono HC2.out.base)
    clear e0 x1' HC2 HCB
    go_wp2_with (at_builtin; refine Hold.wpList_ls H2.out rfl _ _ 28 rfl ta 2 i0 Try.underlying28 hi0 hz0 hz1 hz2 (xs := a) updR_eq rfl rfl HL0.out h64 ?_)
    intro b3 d w3 hH3 hB3 hn3
    rw [updS_two] at hH3
    have hcap := hH3.cap updR_eq
    have ho := hH3.own ta
    rw [updR_eq] at ho
    simp only [Rw.own, Rw.v] at ho
    obtain ⟨q1, q2, Y, q3, q4⟩ := own_full ho
    have q5 : w3.ownsRow base 2 1 (.slice b3 d d) d (rowV a Y) := by simpa [rowV] using q4
    have hg : ∃ g, b3 = some ⟨g, 0, none⟩ := hcap.2.2.2.2 (by omega)
    obtain ⟨g, rfl⟩ := hg
    have hH4 := hH3.add ta (r := ⟨2, 1, some ⟨g, 0, none⟩, d, d, rowV a Y⟩) q5 fun s hs k hk hk' => hH3.dis s ta hs k hk' (by rw [updR_eq]; exact hk)
    rw [updS_two] at hH4
    have LX : Hid ((rowV a Y).length = d) := by show _ = _; have := q5.1; rw [Nat.mul_one] at this; exact this
    have H4 := Lib.hid hH4
    have B4 := Lib.hid (B2.out.trans hB3)
    have hdm : (d : Int) ≤ 9223372036854775807 := by unfold maxLen at q2; omega
    have hd0 : (0 : Int) ≤ d := by omega
    have hnd : an + 2 ≤ d := q1
    have hni : (an : Int) ≤ d := by omega
    clear hH3 hB3 hn3 hcap ho q1 q2 q3 q4 q5 hH4 H2 B2 HL0
    go_wp2_with fail
    go_loopw [7] (fun v7 wx => ∃ i : Nat, an ≤ i ∧ i ≤ d ∧ v7 = .int .i64 i ∧ Hid (Hold base wx (updR R1 ta ⟨2, 1, some ⟨g, 0, none⟩, d, d, fl mkQ an i (rowV a Y)⟩)) ∧ Hid (Below base w wx)) (fun v7 _ => d - (RowKit.intOf v7).toNat)
    case atStart => exact ⟨an, Nat.le_refl _, by omega, rfl, by (show Hold _ _ _; rw [fl_start]; exact H4.out), B4⟩
    case round =>
      obtain ⟨i, hi1, hi2, rfl, HI, HBI⟩ := hrel
      by_cases hlt : i < d
      · have hlt' : (i : Int) < d := by omega
        have CM := Lib.hid (fun w1 => mark4_any i w1)
        have hil : i < (fl mkQ an i (rowV a Y)).length := by rw [fl_len, LX.out]; exact hlt
        obtain ⟨x, hx⟩ : ∃ x, (fl mkQ an i (rowV a Y))[i]? = some x := ⟨_, List.getElem?_eq_getElem hil⟩
        have r1 := HI.out.cell updR_eq i x hx
        have r2 := HI.out.frozen updR_eq i
        have hP := HI.out.put updR_eq i (.int .i64 (mkQ i))
        rw [updS_two, fl_set mkQ hi1 (by rw [LX.out]; exact hlt)] at hP
        have hPB := HBI.out.trans (HI.out.putB updR_eq i (.int .i64 (mkQ i)))
        obtain ⟨mk, HMK⟩ : ∃ z, Hid (mkQ i = z) := ⟨_, rfl⟩
        rw [HMK.out] at CM hP hPB
        have HP := Lib.hid hP
        have HPB := Lib.hid hPB
        clear hP hPB hx hil
        go_wp2_with fail
        refine (CM.out _).mono ?_; rintro e w5 ⟨rfl, rfl⟩
        go_wp2
        go_roundw
        case rel => exact ⟨i + 1, by omega, by omega, by go_num, HP, HPB⟩
        case measure => simp [RowKit.intOf]; omega
      · have hge : (d : Int) ≤ i := by omega
        obtain rfl : i = d := by omega
        have hend := rowV_end mkQ (n := an) hlen LX.out
        rw [hend] at HI
        obtain ⟨⟨u1, u2⟩, ⟨u3, u4⟩, u5, u6⟩ := H9.out
        obtain ⟨v1, v2, v3⟩ := HNE.out
        have ht : (updR R1 ta ⟨2, 1, some ⟨g, 0, none⟩, i, i, (mkd mkQ a i).map (Value.int .i64)⟩) tp = ⟨E0, sz0, some ⟨hb, 0, none⟩, n0, c0, xs.set (j + 1) (.slice a1 m1 c1)⟩ := (updR_ne v2).trans P1.out
        have r1 := HI.out.cell ht (j + 1) _ (by rw [List.getElem?_set_self HJL.out])
        have r2 := HI.out.frozen ht (j + 1)
        have hP := HI.out.put ht (j + 1) (.slice (some ⟨g, 0, none⟩) i i)
        have hPB := HBI.out.trans (HI.out.putB ht (j + 1) (.slice (some ⟨g, 0, none⟩) i i))
        rw [List.set_set] at hP
        obtain ⟨R2, HR2⟩ : ∃ z, Hid (updR (updR R1 ta ⟨2, 1, some ⟨g, 0, none⟩, i, i, (mkd mkQ a i).map (Value.int .i64)⟩) tp ⟨E0, sz0, some ⟨hb, 0, none⟩, n0, c0, xs.set (j + 1) (.slice (some ⟨g, 0, none⟩) i i)⟩ = z) := ⟨_, rfl⟩
        rw [HR2.out] at hP
        have y0 : R2 tp = ⟨E0, sz0, some ⟨hb, 0, none⟩, n0, c0, xs.set (j + 1) (.slice (some ⟨g, 0, none⟩) i i)⟩ := by rw [← HR2.out, updR_eq]
        have yN : ∀ t, t ≠ tp → t ≠ ta → R2 t = R0 t := fun t h1 h2 => by rw [← HR2.out, updR_ne h1, updR_ne h2]; exact N1.out t h1 h2
        have y1 : R2 tr = ⟨3, 1, ho, hm, hc, ys⟩ := (yN tr v1.symm v3).trans HTR.out
        have y2 : R2 ta = ⟨2, 1, some ⟨g, 0, none⟩, i, i, (mkd mkQ a i).map (Value.int .i64)⟩ := by rw [← HR2.out, updR_ne v2.symm, updR_eq]
        have y3 := (yN (9, 9, 0) u1.symm u5.symm).trans k0.out
        have y4 := (yN (9, 9, 1) u2.symm u6.symm).trans k1.out
        obtain ⟨w2, HW2⟩ : ∃ z, Hid (wr.setCell ⟨hb, j + 1, none⟩ (.slice (some ⟨g, 0, none⟩) i i) = z) := ⟨_, rfl⟩
        rw [HW2.out] at hP hPB
        have eJ : (xs.set (j + 1) (.slice (some ⟨g, 0, none⟩) i i))[j]? = some (.slice ho hm hc) := by
          rw [List.getElem?_set_ne (by omega)]; exact HJ.out
        have CI := Lib.hid (ints_any (hP.via (adrew1 _)) v1 y0 eJ y1 (fun wx hx => (HAA.out wx ((hPB.trans ((adrew1 _).mono hP.base)).trans hx)).shp))
        have z1 : w2.cell? ⟨b, 0, none⟩ = some (.slice sa sn sc) := hP.cell y3 0 _ rfl
        have HP := Lib.hid hP
        have HPB := Lib.hid hPB
        have Y0 := Lib.hid y0
        have YN := Lib.hid yN
        have Y2 := Lib.hid y2
        have Y3 := Lib.hid y3
        have Y4 := Lib.hid y4
        clear ht hend hP hPB eJ y0 y1 y2 y3 y4 yN u1 u2 u3 u4 u5 u6 v1 v2 v3
        go_upto_region 12 with fail
        rw [HW2.out]
        clear r1 r2
        go_region_held3 (fun wx => wx.cell? ⟨b, 0, none⟩ = some (.slice sa sn sc)) (go_keep)
          (first
          | (go_at_call 32; (with_reducible refine Calls.mono CI.out ?_); rintro e w5 ⟨g5, d5, R5, rfl, hd5, hH5, p1, p2, pN, hB5⟩; have p4 := (pN (9, 9, 1) H9.out.1.2.symm H9.out.2.1.2.symm).trans Y4.out; have s0 := hH5.cell p4 0 _ rfl; have s1 := hH5.cell p4 1 _ rfl; have s2 := hH5.frozen p4 0; have s3 := hH5.frozen p4 1; have z1 := hH5.cell ((pN (9, 9, 0) H9.out.1.1.symm H9.out.2.1.1.symm).trans Y3.out) 0 _ rfl; clear p4))
        all_goals
          have p4 := (pN (9, 9, 1) H9.out.1.2.symm H9.out.2.1.2.symm).trans Y4.out
          have e1 := hH5.put p4 0 (.slice (some ⟨g5, 0, none⟩) sn d5)
          have e2 := e1.put updR_eq 1 (.slice (some ⟨g, 0, none⟩) an i)
          have e3 := (e2.drop (9, 9, 0)).drop (9, 9, 1)
          have b1 := hB5.trans (hH5.putB p4 0 (.slice (some ⟨g5, 0, none⟩) sn d5))
          have b2 := b1.trans (e1.putB updR_eq 1 (.slice (some ⟨g, 0, none⟩) an i))
          obtain ⟨⟨u1, u2⟩, ⟨u3, u4⟩, u5, u6⟩ := H9.out
          obtain ⟨v1, v2, v3⟩ := HNE.out
          have HF : Hid (Arr4P base w R tp tr ta ⟨E0, sz0, some ⟨hb, 0, none⟩, n0, c0, xs⟩ j sn an s a (.returned (.agg #[.slice (some ⟨g5, 0, none⟩) sn d5, .slice (some ⟨g, 0, none⟩) an i])) ((w5.setCell ⟨b + 1, 0, none⟩ (.slice (some ⟨g5, 0, none⟩) sn d5)).setCell ⟨b + 1, 1, none⟩ (.slice (some ⟨g, 0, none⟩) an i))) := by
            refine ⟨g5, d5, g, i, _, rfl, hd5, hnd, e3, ?_, ?_, ?_, fun t h1 h2 h3 => ?_, HPB.out.trans (((adrew1 _).mono HP.out.base).trans b2)⟩
            · rw [updR_ne u4, updR_ne u3, updR_ne u4, updR_ne u4]; exact p1
            · rw [updR_ne u6, updR_ne u5, updR_ne u6, updR_ne u6]; exact (pN ta v2.symm v3.symm).trans Y2.out
            · rw [updR_ne u2, updR_ne u1, updR_ne u2, updR_ne u2]; exact p2
            · by_cases e9 : t = (9, 9, 1)
              · rw [e9, updR_eq]; exact HN9.out.2.symm
              · rw [updR_ne e9]
                by_cases e8 : t = (9, 9, 0)
                · rw [e8, updR_eq]; exact HN9.out.1.symm
                · rw [updR_ne e8, updR_ne e9, updR_ne e9]
                  exact (pN t h1 h2).trans ((YN.out t h1 h3).trans (kM.out t e8 e9))
          clear hH5 p1 p2 pN hB5 p4 e1 e2 e3 b1 b2 u1 u2 u3 u4 u5 u6 v1 v2 v3 z1
          go_wp2
          exact bodyPost_ret (v := .agg #[.slice (some ⟨g5, 0, none⟩) sn d5, .slice (some ⟨g, 0, none⟩) an i]) (by simp [results, Try.results35, go_sem, *]) rfl HF.out
/-- Behind Kept: all is written over. -/
def Kept4P (base : Nat) (w : World) (R : Nat × Nat × Nat → Rw) (tr ta : Nat × Nat × Nat) (ho : Option Addr) (hm : Nat) (ao : Option Addr) (d : Nat) (e : Ending) (w' : World) : Prop :=
  e = .returned (.bool true) ∧ ∃ (R' : Nat × Nat × Nat → Rw) (S1 S2 : List Int), Hold base w' R' ∧ R' tr = ⟨3, 1, ho, hm, hm, S1.map (Value.int .i64)⟩ ∧ R' ta = ⟨2, 1, ao, d, d, S2.map (Value.int .i64)⟩ ∧ (∀ t, t ≠ tr → t ≠ ta → R' t = R t) ∧ Below base w w'
set_option maxRecDepth 100000 in
set_option maxHeartbeats 3200000 in
theorem kept4_any (H : Hold base w R) {tp tr ta : Nat × Nat × Nat} (hne : tp ≠ tr ∧ tp ≠ ta ∧ tr ≠ ta) (h9 : tp.1 ≠ 9 ∧ tr.1 ≠ 9 ∧ ta.1 ≠ 9) (hn9 : R (9, 9, 0) = Rw.nil)
    {E0 : TypeId} {sz0 hb n0 c0 j : Nat} {xs : List Value} (htp : R tp = ⟨E0, sz0, some ⟨hb, 0, none⟩, n0, c0, xs⟩)
    {ho : Option Addr} {hm : Nat} {S1 : List Int} (hj : xs[j]? = some (.slice ho hm hm)) (htr : R tr = ⟨3, 1, ho, hm, hm, S1.map (Value.int .i64)⟩)
    {ao : Option Addr} {d : Nat} {S : List Int} (hj2 : xs[j + 1]? = some (.slice ao d d)) (hta : R ta = ⟨2, 1, ao, d, d, S.map (Value.int .i64)⟩)
    {A : Ar} (hA : ∀ wx, Below base w wx → A.Is wx) (hS1 : Good A.s S1 mkS) (hS : Good A.a S mkQ) :
    Calls Try.prog 36 #[.pointer (some ⟨hb, j, none⟩), A.v] w (Kept4P base w R tr ta ho hm ao d) := by
  obtain ⟨sa, sn, sc, aa, an, ac, s, a⟩ := A
  simp only [Ar.v] at hS1 hS ⊢
  have hI := hA w (Below.refl _ _)
  have hlen : a.length = an := hI.ats.len
  obtain ⟨n1, n2, n3⟩ := hne
  obtain ⟨q1, q2, q3⟩ := h9
  have m1 : ∀ t : Nat × Nat × Nat, t.1 ≠ 9 → t ≠ (9, 9, 0) := fun t ht => fun e => ht (by rw [e])
  have hcap := H.cap hta
  have hSl : S.length = d := by have := hcap.2.2.1; simpa using this
  have hdm : (d : Int) ≤ 9223372036854775807 := by have := hcap.2.1; unfold maxLen at this; omega
  obtain ⟨W, HW⟩ : ∃ z, Hid (w.alloc (.cells #[.slice sa sn sc, .slice aa an ac] 45) = z) := ⟨_, rfl⟩
  have h0 := H.alloc (9, 9, 0) (cs := #[.slice sa sn sc, .slice aa an ac]) (E := 45) (sz := 2) (n := 1) rfl (by decide)
  have hB0 : Below base w W := by rw [← HW.out]; exact (abal _ _).mono H.base
  rw [HW.out] at h0
  obtain ⟨b, HBB⟩ : ∃ z, Hid (w.heap.size = z) := ⟨_, rfl⟩
  obtain ⟨R0, HR0⟩ : ∃ z, Hid (updR R (9, 9, 0) ⟨45, 2, some ⟨w.heap.size, 0, none⟩, 1, 1, (#[.slice sa sn sc, .slice aa an ac] : Array Value).toList⟩ = z) := ⟨_, rfl⟩
  rw [HR0.out] at h0
  have k0 : Hid (R0 (9, 9, 0) = ⟨45, 2, some ⟨b, 0, none⟩, 1, 1, [.slice sa sn sc, .slice aa an ac]⟩) := by show _ = _; rw [← HR0.out, updR_eq, HBB.out]
  have kN : Hid (∀ t : Nat × Nat × Nat, t ≠ (9, 9, 0) → R0 t = R t) := fun t h1 => by rw [← HR0.out, updR_ne h1]
  have HTP := Lib.hid ((kN.out tp (m1 tp q1)).trans htp)
  have HTR := Lib.hid ((kN.out tr (m1 tr q2)).trans htr)
  have HTA := Lib.hid ((kN.out ta (m1 ta q3)).trans hta)
  have HJ := Lib.hid hj
  have HJ2 := Lib.hid hj2
  have HAA := Lib.hid hA
  have HNE := Lib.hid (And.intro n1 (And.intro n2 n3))
  have H9 := Lib.hid (And.intro (m1 tp q1) (And.intro (m1 tr q2) (m1 ta q3)))
  have HN9 := Lib.hid hn9
  have HB0 := Lib.hid (hB0.trans ((adrew1 _).mono h0.base))
  have HS := Lib.hid hS
  have HC := Lib.hid hcap
  have x0 : W.cell? ⟨b, 0, none⟩ = some (.slice sa sn sc) := h0.cell k0.out 0 _ rfl
  have HH := Lib.hid (h0.via (adrew1 _))
  have CK := Lib.hid (intsKept_any HH.out n1 HTP.out hj HTR.out (fun wx hx => (hA wx (HB0.out.trans hx)).shp) hS1)
  clear H htp htr hta hj hj2 hA hI h0 n1 n2 n3 q1 q2 q3 m1 hn9 hB0 HR0 hS hS1 hcap
  go_enter Try.func36, Try.ntmps36
  go_upto_region 1 with fail
  rw [HW.out, HBB.out]
  go_region_held3 (fun wx => wx.cell? ⟨b, 0, none⟩ = some (.slice sa sn sc)) (go_keep)
    (first
    | (go_at_call 33; (with_reducible refine Calls.mono CK.out ?_); rintro e w5 ⟨rfl, R5, S5, hH5, p1, pN, hB5⟩; have x0 := hH5.cell ((pN (9, 9, 0) H9.out.2.1.symm).trans k0.out) 0 _ rfl))
  have H5 := Lib.hid hH5
  have P1 := Lib.hid p1
  have PN := Lib.hid pN
  have B5 := Lib.hid (HB0.out.trans hB5)
  have TA := Lib.hid ((pN ta HNE.out.2.2.symm).trans HTA.out)
  have TP := Lib.hid ((pN tp HNE.out.1).trans HTP.out)
  have K5 := Lib.hid ((pN (9, 9, 0) H9.out.2.1.symm).trans k0.out)
  clear hH5 p1 pN hB5 x0 CK
  go_wp2_with fail
  go_loopw [5, 6, 7] (fun v5 v6 v7 wx => ∃ i : Nat, i ≤ d ∧ v5 = .bool true ∧ v6 = .int .i64 i ∧ Hid (Hold base wx (updR R5 ta ⟨2, 1, ao, d, d, (ovr (-99) i S).map (Value.int .i64)⟩)) ∧ Hid (Below base w wx)) (fun _ v6 _ _ => d - (RowKit.intOf v6).toNat)
  case atStart => exact ⟨0, Nat.zero_le _, rfl, rfl, by (show Hold _ _ _; rw [show ovr (-99) 0 S = S from rfl, updS_self TA.out]; exact H5.out), B5⟩
  case round =>
    obtain ⟨i, hi, rfl, rfl, HI, HBI⟩ := hrel
    have ht : (updR R5 ta ⟨2, 1, ao, d, d, (ovr (-99) i S).map (Value.int .i64)⟩) tp = ⟨E0, sz0, some ⟨hb, 0, none⟩, n0, c0, xs⟩ := (updR_ne HNE.out.2.1).trans TP.out
    have hx9 : (updR R5 ta ⟨2, 1, ao, d, d, (ovr (-99) i S).map (Value.int .i64)⟩) (9, 9, 0) = ⟨45, 2, some ⟨b, 0, none⟩, 1, 1, [.slice sa sn sc, .slice aa an ac]⟩ := (updR_ne H9.out.2.2.symm).trans K5.out
    have d0 := HI.out.cell ht (j + 1) _ HJ2.out
    have x1 := HI.out.cell hx9 1 _ rfl
    by_cases hlt : i < d
    · have hlt' : (i : Int) < d := by omega
      obtain ⟨g, hg⟩ := HC.out.2.2.2.2 (by omega)
      subst hg
      have CM := Lib.hid (fun w1 => mark4_any i w1)
      have hlk : i < (ovr (-99) i S).length := by rw [ovr_len _ (by omega)]; omega
      have hSk := HS.out i (by omega)
      have d1 : wr.cell? ⟨g, i, none⟩ = some (.int .i64 (S.getD i 0)) := HI.out.cell updR_eq i _ (by rw [getD_map_int _ i hlk, ovr_get _ (by omega)])
      have d2 := HI.out.frozen updR_eq i
      have hP := HI.out.put updR_eq i (.int .i64 (-99))
      rw [updS_two, ← List.map_set, ovr_set _ (by omega)] at hP
      have HP := Lib.hid hP
      have HPB := Lib.hid (HBI.out.trans (HI.out.putB updR_eq i (.int .i64 (-99))))
      by_cases hkt : i < an
      · have hkt' : (i : Int) < an := by omega
        rw [hlen, if_pos hkt] at hSk
        obtain ⟨ob, fb, rfl, hcb⟩ := (HAA.out wr HBI.out).ats.at (show 0 < an by omega)
        have d3 := hcb i hkt
        simp only at d3
        rw [hSk] at d1
        obtain ⟨x, HX⟩ : ∃ z, Hid (a.getD i 0 = z) := ⟨_, rfl⟩
        rw [HX.out] at d1 d3
        have hb := beq_same x
        obtain ⟨mk, HMK⟩ : ∃ z, Hid (mkQ i = z) := ⟨_, rfl⟩
        rw [HMK.out] at CM
        clear hcb hSk hlk hP ht hx9
        go_wp2_with fail
        refine (CM.out _).mono ?_; rintro e w5 ⟨rfl, rfl⟩
        go_wp2
        go_roundw
        case rel => exact ⟨i + 1, by omega, by first | rfl | simp, by go_num, HP, HPB⟩
        case measure => simp [RowKit.intOf]; omega
      · have hkt' : (an : Int) ≤ i := by omega
        rw [hlen, if_neg hkt] at hSk
        rw [hSk] at d1
        obtain ⟨mk, HMK⟩ : ∃ z, Hid (mkQ i = z) := ⟨_, rfl⟩
        rw [HMK.out] at d1 CM
        have hb := beq_same mk
        clear hSk hlk hP ht hx9
        go_wp2_with fail
        refine (CM.out _).mono ?_; rintro e w5 ⟨rfl, rfl⟩
        go_wp2
        go_roundw
        case rel => exact ⟨i + 1, by omega, by first | rfl | simp, by go_num, HP, HPB⟩
        case measure => simp [RowKit.intOf]; omega
    · have hge : (d : Int) ≤ i := by omega
      have HF : Hid (Kept4P base w R tr ta ho hm ao d (.returned (.bool true)) wr) := by
        refine ⟨rfl, _, S5, ovr (-99) i S, HI.out.drop (9, 9, 0), ?_, ?_, fun t h1 h2 => ?_, HBI.out⟩
        · rw [updR_ne H9.out.2.1, updR_ne HNE.out.2.2]; exact P1.out
        · rw [updR_ne H9.out.2.2, updR_eq]
        · by_cases e9 : t = (9, 9, 0)
          · rw [e9, updR_eq]; exact HN9.out.symm
          · rw [updR_ne e9, updR_ne h2]
            exact (PN.out t h1).trans (kN.out t e9)
      clear ht hx9
      go_wp2
      go_ret
      exact HF.out
end
end Go.Proofs.Ythackmkdicpdeaa
namespace Go.Proofs.Ythackmkdicpdeaa
open Go.RowKit Go.Lib
set_option linter.unusedVariables false
set_option linter.unusedSimpArgs false
attribute [local go_sem] alloc_drewN setCell_drewN
theorem own_mono4 {r : Rw} {w : World} {B B' : Nat} (h : r.own w B') (hb : B ≤ B') : r.own w B := by
  obtain ⟨h1, h2 | ⟨g, cap, cur, hv, hg, hh, hc, hm, hs, ht⟩⟩ := h
  · exact ⟨h1, .inl h2⟩
  · exact ⟨h1, .inr ⟨g, cap, cur, hv, Nat.le_trans hb hg, hh, hc, hm, hs, ht⟩⟩
theorem ls_laid4 {w : World} {base : Nat} {R : Nat × Nat × Nat → Rw} (h : Hold base w R) {t : Nat × Nat × Nat} {E : TypeId} {g d : Nat} {s : List Int} {f : Nat → Int} (e : R t = ⟨E, 1, some ⟨g, 0, none⟩, d, d, (mkd f s d).map (Value.int .i64)⟩) (hd : s.length ≤ d)
    (hb : s.length * 8 ≤ 140737488351232) (hr : ∀ i, -9223372036854775808 ≤ s.getD i 0 ∧ s.getD i 0 ≤ 9223372036854775807) : Ls w (some ⟨g, 0, none⟩) s.length d s := by
  have ho := h.own t
  rw [e] at ho
  exact ls_of_full ho hd (mkd_take f hd) hb hr
/-- A row of numbers at its whole length. -/
def FullE (E : TypeId) (r : Rw) : Prop := ∃ (ao : Option Addr) (d : Nat) (S : List Int), r = ⟨E, 1, ao, d, d, S.map (Value.int .i64)⟩
/-- The two hands' rows. -/
structure Hn4 (R : Nat × Nat × Nat → Rw) (T : TypeId) (hb : Nat) : Prop where
  obj : R (0, 0, 0) = ⟨T, 4, some ⟨hb, 0, none⟩, 1, 1, [(R (0, 1, 0)).v, (R (0, 1, 1)).v, (R (0, 2, 0)).v, (R (0, 2, 1)).v]⟩
  s1 : FullE 3 (R (0, 1, 0))
  a1 : FullE 2 (R (0, 1, 1))
  s2 : FullE 3 (R (0, 2, 0))
  a2 : FullE 2 (R (0, 2, 1))
/-- What lies in a hand behind Array. -/
def laid4 (s a : List Int) (g d g2 d2 : Nat) : Rw × Rw := (⟨3, 1, some ⟨g, 0, none⟩, d, d, (mkd mkS s d).map (Value.int .i64)⟩, ⟨2, 1, some ⟨g2, 0, none⟩, d2, d2, (mkd mkQ a d2).map (Value.int .i64)⟩)
section
variable {base : Nat} {w : World} {T : TypeId} {hb : Nat} {h1 h2 : Option (Rw × Rw)} {wx w' : World} {Q : Nat × Nat × Nat → Rw}
theorem Hn4.congr {R R' : Nat × Nat × Nat → Rw} (h : Hn4 R T hb) (hR : ∀ t, t.1 = 0 → R' t = R t) : Hn4 R' T hb := by
  refine ⟨?_, ?_, ?_, ?_, ?_⟩
  · rw [hR _ rfl, hR _ rfl, hR _ rfl, hR _ rfl, hR _ rfl]; exact h.obj
  · rw [hR _ rfl]; exact h.s1
  · rw [hR _ rfl]; exact h.a1
  · rw [hR _ rfl]; exact h.s2
  · rw [hR _ rfl]; exact h.a2
/-- The hands at (0, ..), all other rows as Q says; what lies in the two hands, where it is known. -/
def St4 (base : Nat) (w : World) (T : TypeId) (hb : Nat) (Q : Nat × Nat × Nat → Rw) (h1 h2 : Option (Rw × Rw)) (wx : World) : Prop :=
  ∃ Rx : Nat × Nat × Nat → Rw, Hold base wx Rx ∧ Hn4 Rx T hb ∧ (∀ t, t.1 ≠ 0 → Rx t = Q t) ∧ (∀ r, h1 = some r → Rx (0, 1, 0) = r.1 ∧ Rx (0, 1, 1) = r.2) ∧ (∀ r, h2 = some r → Rx (0, 2, 0) = r.1 ∧ Rx (0, 2, 1) = r.2) ∧ Below base w wx
theorem St4.below (h : St4 base w T hb Q h1 h2 wx) : Below base w wx := by obtain ⟨_, _, _, _, _, _, h⟩ := h; exact h
theorem St4.sizes (h : St4 base w T hb Q h1 h2 wx) : base ≤ wx.heap.size := by obtain ⟨_, h, _⟩ := h; exact h.base
theorem St4.via (h : St4 base w T hb Q h1 h2 wx) (hb' : Below wx.heap.size wx w') : St4 base w T hb Q h1 h2 w' := by
  obtain ⟨Rx, h, b, q, r1, r2, hw⟩ := h
  exact ⟨Rx, h.via hb', b, q, r1, r2, hw.trans (hb'.mono h.base)⟩
theorem St4.drew (h : St4 base w T hb Q h1 h2 wx) : St4 base w T hb Q h1 h2 wx.drew := h.via (adrew1 _)
theorem St4.forget (h : St4 base w T hb Q h1 h2 wx) : St4 base w T hb Q none none wx := by
  obtain ⟨Rx, h, b, q, r1, r2, hw⟩ := h
  exact ⟨Rx, h, b, q, fun r e => absurd e (by simp), fun r e => absurd e (by simp), hw⟩
theorem St4.cell (h : St4 base w T hb Q h1 h2 wx) {t : Nat × Nat × Nat} (ht : t.1 ≠ 0) {E : TypeId} {sz g n c : Nat} {xs : List Value} (e : Q t = ⟨E, sz, some ⟨g, 0, none⟩, n, c, xs⟩) (j : Nat) (v : Value) (hj : xs[j]? = some v) : wx.cell? ⟨g, j, none⟩ = some v := by
  obtain ⟨Rx, h, b, q, r1, r2, hw⟩ := h
  exact h.cell ((q t ht).trans e) j v hj
theorem St4.frozen (h : St4 base w T hb Q h1 h2 wx) {t : Nat × Nat × Nat} (ht : t.1 ≠ 0) {E : TypeId} {sz g n c : Nat} {xs : List Value} (e : Q t = ⟨E, sz, some ⟨g, 0, none⟩, n, c, xs⟩) (j : Nat) : wx.frozen? ⟨g, j, none⟩ = false := by
  obtain ⟨Rx, h, b, q, r1, r2, hw⟩ := h
  exact h.frozen ((q t ht).trans e) j
theorem St4.put (h : St4 base w T hb Q h1 h2 wx) {t : Nat × Nat × Nat} (ht : t.1 ≠ 0) {E : TypeId} {sz g n c : Nat} {xs : List Value} (e : Q t = ⟨E, sz, some ⟨g, 0, none⟩, n, c, xs⟩) (j : Nat) (u : Value) : St4 base w T hb (updR Q t ⟨E, sz, some ⟨g, 0, none⟩, n, c, xs.set j u⟩) h1 h2 (wx.setCell ⟨g, j, none⟩ u) := by
  obtain ⟨Rx, h, b, q, r1, r2, hw⟩ := h
  have e' := (q t ht).trans e
  have hn : ∀ s : Nat × Nat × Nat, s.1 = 0 → s ≠ t := fun s hs e => ht (by rw [← e]; exact hs)
  refine ⟨_, h.put e' j u, b.congr (fun s hs => updR_ne (hn s hs)), fun s hs => ?_, fun r hr => ?_, fun r hr => ?_, hw.trans (h.putB e' j u)⟩
  · by_cases e2 : s = t
    · subst e2; rw [updR_eq, updR_eq]
    · rw [updR_ne e2, updR_ne e2]; exact q s hs
  · rw [updR_ne (hn _ rfl), updR_ne (hn _ rfl)]; exact r1 r hr
  · rw [updR_ne (hn _ rfl), updR_ne (hn _ rfl)]; exact r2 r hr
theorem St4.add (h : St4 base w T hb Q h1 h2 wx) {t : Nat × Nat × Nat} (ht : t.1 ≠ 0) {r : Rw} (hr : r.own w' wx.heap.size) (hb' : Below wx.heap.size wx w') : St4 base w T hb (updR Q t r) h1 h2 w' := by
  obtain ⟨Rx, h, b, q, r1, r2, hw⟩ := h
  have hn : ∀ s : Nat × Nat × Nat, s.1 = 0 → s ≠ t := fun s hs e => ht (by rw [← e]; exact hs)
  refine ⟨_, h.new t (own_mono4 hr h.base) hb' (fun g hg => (Rw.own.lt hr hg).1), b.congr (fun s hs => updR_ne (hn s hs)), fun s hs => ?_, fun r' hr' => ?_, fun r' hr' => ?_, hw.trans (hb'.mono h.base)⟩
  · by_cases e2 : s = t
    · subst e2; rw [updR_eq, updR_eq]
    · rw [updR_ne e2, updR_ne e2]; exact q s hs
  · rw [updR_ne (hn _ rfl), updR_ne (hn _ rfl)]; exact r1 r' hr'
  · rw [updR_ne (hn _ rfl), updR_ne (hn _ rfl)]; exact r2 r' hr'
theorem St4.alloc (h : St4 base w T hb Q h1 h2 wx) {t : Nat × Nat × Nat} (ht : t.1 ≠ 0) {cs : Array Value} {E : TypeId} {sz n : Nat} (hs : cs.size = n * sz) (hn : n ≤ maxLen) :
    St4 base w T hb (updR Q t ⟨E, sz, some ⟨wx.heap.size, 0, none⟩, n, n, cs.toList⟩) h1 h2 (wx.alloc (.cells cs E)) := h.add ht (World.ownsRow_lit wx cs n (Nat.le_refl _) hn hs) (abal _ _)
/-- An array that a call made is held. -/
theorem St4.made (h : St4 base w T hb Q h1 h2 wx) {t1 t2 : Nat × Nat × Nat} (ht1 : t1.1 ≠ 0) (ht2 : t2.1 ≠ 0) (h12 : t1 ≠ t2) {B : Ar} (hO : B.Own w' wx.heap.size) (hb' : Below wx.heap.size wx w') :
    St4 base w T hb (updR (updR Q t1 (rowS B)) t2 (rowA B)) h1 h2 w' := by
  obtain ⟨Rx, h, b, q, r1, r2, hw⟩ := h
  have hn : ∀ s : Nat × Nat × Nat, s.1 = 0 → updR (updR Rx t1 (rowS B)) t2 (rowA B) s = Rx s := fun s hs => (updR_ne (fun e => ht2 (by rw [← e]; exact hs))).trans (updR_ne (fun e => ht1 (by rw [← e]; exact hs)))
  refine ⟨_, h.made hO hb' t1 t2 h12, b.congr hn, fun s hs => ?_, fun r hr => ?_, fun r hr => ?_, hw.trans (hb'.mono h.base)⟩
  · by_cases e2 : s = t2
    · subst e2; rw [updR_eq, updR_eq]
    · rw [updR_ne e2, updR_ne e2]
      by_cases e1 : s = t1
      · subst e1; rw [updR_eq, updR_eq]
      · rw [updR_ne e1, updR_ne e1]; exact q s hs
  · rw [hn _ rfl, hn _ rfl]; exact r1 r hr
  · rw [hn _ rfl, hn _ rfl]; exact r2 r hr
theorem St4.isA (h : St4 base w T hb Q h1 h2 wx) {t1 t2 : Nat × Nat × Nat} (ht1 : t1.1 ≠ 0) (ht2 : t2.1 ≠ 0) {B : Ar} {w0 : World} (hI : B.Is w0) (e1 : Q t1 = rowS B) (e2 : Q t2 = rowA B) : B.Is wx := by
  obtain ⟨Rx, h, b, q, r1, r2, hw⟩ := h
  exact ⟨h.ls ((q t1 ht1).trans e1) hI.shp.big hI.shp.rng, h.ls ((q t2 ht2).trans e2) hI.ats.big hI.ats.rng⟩
theorem St4.is1 {s a : List Int} {g d g2 d2 : Nat} (h : St4 base w T hb Q (some (laid4 s a g d g2 d2)) (h2) wx) {sa aa : Option Addr} {sn sc an ac : Nat} {w0 : World} (hI : Ar.Is ⟨sa, sn, sc, aa, an, ac, s, a⟩ w0) (hd : sn ≤ d) (hd2 : an ≤ d2) : Ar.Is ⟨some ⟨g, 0, none⟩, sn, d, some ⟨g2, 0, none⟩, an, d2, s, a⟩ wx := by
  obtain ⟨Rx, h, b, q, r1, r2, hw⟩ := h
  have l1 : s.length = sn := hI.shp.len
  have l2 : a.length = an := hI.ats.len
  have b1 := hI.shp.big
  have b2 := hI.ats.big
  simp only at b1 b2
  obtain ⟨e1, e2⟩ := r1 _ rfl
  have k1 := ls_laid4 h e1 (by omega) (by omega) hI.shp.rng
  have k2 := ls_laid4 h e2 (by omega) (by omega) hI.ats.rng
  rw [l1] at k1
  rw [l2] at k2
  exact ⟨k1, k2⟩
theorem St4.array1 (h : St4 base w T hb Q h1 h2 wx) (hq : Q (9, 9, 0) = Rw.nil ∧ Q (9, 9, 1) = Rw.nil) {A : Ar} (hl : ∀ wy, Below base w wy → A.Is wy) :
    Calls Try.prog 35 #[.pointer (some ⟨hb, 0, none⟩), A.v] wx (fun e w' => ∃ g d g2 d2, e = .returned (.agg #[.slice (some ⟨g, 0, none⟩) A.sn d, .slice (some ⟨g2, 0, none⟩) A.an d2]) ∧ A.sn ≤ d ∧ A.an ≤ d2 ∧ St4 base w T hb Q (some (laid4 A.s A.a g d g2 d2)) (h2) w') := by
  obtain ⟨Rx, h, b, q, r1, r2, hw⟩ := h
  obtain ⟨so, sd, S, e1⟩ := b.s1
  obtain ⟨ao, ad, S2, e2⟩ := b.a1
  refine (array4_any h (tp := (0, 0, 0)) (tr := (0, 1, 0)) (ta := (0, 1, 1)) (by simp) (by simp) ⟨(q _ (by simp)).trans hq.1, (q _ (by simp)).trans hq.2⟩ b.obj (j := 0) (ho := so) (hm := sd) (hc := sd) (by simp [e1, Rw.v]) e1 (ao := ao) (m := ad) (c := ad) (by simp [e2, Rw.v]) e2 (fun wy hy => hl wy (hw.trans hy))).mono ?_
  rintro e w' ⟨g, d, g2, d2, R', rfl, hd, hd2, hH, k1, k2, k3, kN, hbw⟩
  refine ⟨g, d, g2, d2, rfl, by omega, by omega, R', hH, ?_, fun t ht => (kN t (fun e => ht (by rw [e])) (fun e => ht (by rw [e])) (fun e => ht (by rw [e]))).trans (q t ht), ?_, ?_, hw.trans hbw⟩
  · have q1 : R' (0, 2, 0) = Rx (0, 2, 0) := kN _ (by simp) (by simp) (by simp)
    have q2 : R' (0, 2, 1) = Rx (0, 2, 1) := kN _ (by simp) (by simp) (by simp)
    refine ⟨?_, ⟨_, _, _, k1⟩, ⟨_, _, _, k2⟩, by rw [q1]; exact b.s2, by rw [q2]; exact b.a2⟩
    rw [k3, k1, k2, q1, q2]; rfl
  · intro r e; simp only [Option.some.injEq] at e; subst e; exact ⟨k1, k2⟩
  · intro r e; rw [kN _ (by simp) (by simp) (by simp), kN _ (by simp) (by simp) (by simp)]; exact r2 r e
theorem St4.kept1 {A : Ar} {g d g2 d2 : Nat} (h : St4 base w T hb Q (some (laid4 A.s A.a g d g2 d2)) (h2) wx) (hq : Q (9, 9, 0) = Rw.nil ∧ Q (9, 9, 1) = Rw.nil) (hl : ∀ wy, Below base w wy → A.Is wy) :
    Calls Try.prog 36 #[.pointer (some ⟨hb, 0, none⟩), A.v] wx (fun e w' => e = .returned (.bool true) ∧ St4 base w T hb Q (none) (h2) w') := by
  obtain ⟨Rx, h, b, q, r1, r2, hw⟩ := h
  obtain ⟨e1, e2⟩ := r1 _ rfl
  simp only [laid4] at e1 e2
  refine (kept4_any h (tp := (0, 0, 0)) (tr := (0, 1, 0)) (ta := (0, 1, 1)) (by simp) (by simp) ((q _ (by simp)).trans hq.1) b.obj (j := 0) (ho := some ⟨g, 0, none⟩) (hm := d) (by simp [e1, Rw.v]) e1 (ao := some ⟨g2, 0, none⟩) (d := d2) (by simp [e2, Rw.v]) e2 (fun wy hy => hl wy (hw.trans hy)) (mkd_good _ _ _) (mkd_good _ _ _)).mono ?_
  rintro e w' ⟨rfl, R', S1, S2, hH, k1, k2, kN, hbw⟩
  refine ⟨rfl, R', hH, ?_, fun t ht => (kN t (fun e => ht (by rw [e])) (fun e => ht (by rw [e]))).trans (q t ht), ?_, ?_, hw.trans hbw⟩
  · have q0 : R' (0, 0, 0) = Rx (0, 0, 0) := kN _ (by simp) (by simp)
    have q1 : R' (0, 2, 0) = Rx (0, 2, 0) := kN _ (by simp) (by simp)
    have q2 : R' (0, 2, 1) = Rx (0, 2, 1) := kN _ (by simp) (by simp)
    refine ⟨?_, ⟨_, _, _, k1⟩, ⟨_, _, _, k2⟩, by rw [q1]; exact b.s2, by rw [q2]; exact b.a2⟩
    rw [q0, b.obj, k1, k2, q1, q2, e1, e2]; rfl
  · intro r e; cases e
  · intro r e; rw [kN _ (by simp) (by simp), kN _ (by simp) (by simp)]; exact r2 r e
theorem St4.is2 {s a : List Int} {g d g2 d2 : Nat} (h : St4 base w T hb Q (h1) (some (laid4 s a g d g2 d2)) wx) {sa aa : Option Addr} {sn sc an ac : Nat} {w0 : World} (hI : Ar.Is ⟨sa, sn, sc, aa, an, ac, s, a⟩ w0) (hd : sn ≤ d) (hd2 : an ≤ d2) : Ar.Is ⟨some ⟨g, 0, none⟩, sn, d, some ⟨g2, 0, none⟩, an, d2, s, a⟩ wx := by
  obtain ⟨Rx, h, b, q, r1, r2, hw⟩ := h
  have l1 : s.length = sn := hI.shp.len
  have l2 : a.length = an := hI.ats.len
  have b1 := hI.shp.big
  have b2 := hI.ats.big
  simp only at b1 b2
  obtain ⟨e1, e2⟩ := r2 _ rfl
  have k1 := ls_laid4 h e1 (by omega) (by omega) hI.shp.rng
  have k2 := ls_laid4 h e2 (by omega) (by omega) hI.ats.rng
  rw [l1] at k1
  rw [l2] at k2
  exact ⟨k1, k2⟩
theorem St4.array2 (h : St4 base w T hb Q h1 h2 wx) (hq : Q (9, 9, 0) = Rw.nil ∧ Q (9, 9, 1) = Rw.nil) {A : Ar} (hl : ∀ wy, Below base w wy → A.Is wy) :
    Calls Try.prog 35 #[.pointer (some ⟨hb, 2, none⟩), A.v] wx (fun e w' => ∃ g d g2 d2, e = .returned (.agg #[.slice (some ⟨g, 0, none⟩) A.sn d, .slice (some ⟨g2, 0, none⟩) A.an d2]) ∧ A.sn ≤ d ∧ A.an ≤ d2 ∧ St4 base w T hb Q (h1) (some (laid4 A.s A.a g d g2 d2)) w') := by
  obtain ⟨Rx, h, b, q, r1, r2, hw⟩ := h
  obtain ⟨so, sd, S, e1⟩ := b.s2
  obtain ⟨ao, ad, S2, e2⟩ := b.a2
  refine (array4_any h (tp := (0, 0, 0)) (tr := (0, 2, 0)) (ta := (0, 2, 1)) (by simp) (by simp) ⟨(q _ (by simp)).trans hq.1, (q _ (by simp)).trans hq.2⟩ b.obj (j := 2) (ho := so) (hm := sd) (hc := sd) (by simp [e1, Rw.v]) e1 (ao := ao) (m := ad) (c := ad) (by simp [e2, Rw.v]) e2 (fun wy hy => hl wy (hw.trans hy))).mono ?_
  rintro e w' ⟨g, d, g2, d2, R', rfl, hd, hd2, hH, k1, k2, k3, kN, hbw⟩
  refine ⟨g, d, g2, d2, rfl, by omega, by omega, R', hH, ?_, fun t ht => (kN t (fun e => ht (by rw [e])) (fun e => ht (by rw [e])) (fun e => ht (by rw [e]))).trans (q t ht), ?_, ?_, hw.trans hbw⟩
  · have q1 : R' (0, 1, 0) = Rx (0, 1, 0) := kN _ (by simp) (by simp) (by simp)
    have q2 : R' (0, 1, 1) = Rx (0, 1, 1) := kN _ (by simp) (by simp) (by simp)
    refine ⟨?_, by rw [q1]; exact b.s1, by rw [q2]; exact b.a1, ⟨_, _, _, k1⟩, ⟨_, _, _, k2⟩⟩
    rw [k3, k1, k2, q1, q2]; rfl
  · intro r e; rw [kN _ (by simp) (by simp) (by simp), kN _ (by simp) (by simp) (by simp)]; exact r1 r e
  · intro r e; simp only [Option.some.injEq] at e; subst e; exact ⟨k1, k2⟩
theorem St4.kept2 {A : Ar} {g d g2 d2 : Nat} (h : St4 base w T hb Q (h1) (some (laid4 A.s A.a g d g2 d2)) wx) (hq : Q (9, 9, 0) = Rw.nil ∧ Q (9, 9, 1) = Rw.nil) (hl : ∀ wy, Below base w wy → A.Is wy) :
    Calls Try.prog 36 #[.pointer (some ⟨hb, 2, none⟩), A.v] wx (fun e w' => e = .returned (.bool true) ∧ St4 base w T hb Q (h1) (none) w') := by
  obtain ⟨Rx, h, b, q, r1, r2, hw⟩ := h
  obtain ⟨e1, e2⟩ := r2 _ rfl
  simp only [laid4] at e1 e2
  refine (kept4_any h (tp := (0, 0, 0)) (tr := (0, 2, 0)) (ta := (0, 2, 1)) (by simp) (by simp) ((q _ (by simp)).trans hq.1) b.obj (j := 2) (ho := some ⟨g, 0, none⟩) (hm := d) (by simp [e1, Rw.v]) e1 (ao := some ⟨g2, 0, none⟩) (d := d2) (by simp [e2, Rw.v]) e2 (fun wy hy => hl wy (hw.trans hy)) (mkd_good _ _ _) (mkd_good _ _ _)).mono ?_
  rintro e w' ⟨rfl, R', S1, S2, hH, k1, k2, kN, hbw⟩
  refine ⟨rfl, R', hH, ?_, fun t ht => (kN t (fun e => ht (by rw [e])) (fun e => ht (by rw [e]))).trans (q t ht), ?_, ?_, hw.trans hbw⟩
  · have q0 : R' (0, 0, 0) = Rx (0, 0, 0) := kN _ (by simp) (by simp)
    have q1 : R' (0, 1, 0) = Rx (0, 1, 0) := kN _ (by simp) (by simp)
    have q2 : R' (0, 1, 1) = Rx (0, 1, 1) := kN _ (by simp) (by simp)
    refine ⟨?_, by rw [q1]; exact b.s1, by rw [q2]; exact b.a1, ⟨_, _, _, k1⟩, ⟨_, _, _, k2⟩⟩
    rw [q0, b.obj, k1, k2, q1, q2, e1, e2]; rfl
  · intro r e; rw [kN _ (by simp) (by simp), kN _ (by simp) (by simp)]; exact r1 r e
  · intro r e; cases e
end
end Go.Proofs.Ythackmkdicpdeaa

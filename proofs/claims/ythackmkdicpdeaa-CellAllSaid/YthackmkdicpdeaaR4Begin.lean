/- The document's joiner; contract of its Begin (printed by gen_r4begin.py). -/
import Derived.Test.YthackmkdicpdeaaRef4Base
import Derived.Test.YthackmkdicpdeaaCellBegin
namespace Go.Proofs.Ythackmkdicpdeaa
open Go.RowKit Go.Lib
set_option linter.unusedVariables false
set_option linter.unusedSimpArgs false
attribute [local go_sem] alloc_drewN setCell_drewN
def rjnL (g : Nat) (fr c : List Int) (N : Nat) (x : Jn) : List Pt := [Pt.row ⟨134, 3, some ⟨g, 0, none⟩, 1, 1, [.slice x.fo x.fn x.fc, .slice x.go N x.gc, .slice x.co x.cn x.cc]⟩, Pt.ints 3 x.fo x.fn x.fc fr, Pt.ints 3 x.co x.cn x.cc c, Pt.row ⟨45, 2, x.go, N, x.gc, cellsA x.As⟩, Pt.all (x.As.map Pt.arr)]
/-- The document's joiner: its frame, the common shape, what it was given. -/
def Pt.rjoiner (g : Nat) (fr c : List Int) (G : List (List Int × List Int)) : Pt := Pt.ex fun x : Jn => Pt.pure (mayE fr = 0 ∧ 0 < pr fr ∧ Jok fr c G ∧ x.As.map Ar.sa2 = G) (Pt.all (rjnL g fr c G.length x))
def RBegun4 (w : World) (fr : List Int) (e : Ending) (w' : World) : Prop := ∃ g, e = .returned (.tuple #[.pointer (some ⟨g, 0, none⟩), .int .i64 0]) ∧ Sp Non w w' [Pt.rjoiner g fr [] []]
set_option maxHeartbeats 800000 in
theorem rbegin_bad {w : World} {ao : Option Addr} {n c : Nat} {fr : List Int} (h : Ls w ao n c fr) (hb : bgE fr ≠ 0) :
    Calls Try.prog 34 #[.slice ao n c] w (RetS w (.tuple #[.pointer none, .int .i64 (bgE fr)])) := by
  have CS := Lib.hid (rsize_any h)
  by_cases hm : mayE fr = 0
  · have h0 : pr fr = 0 := by
      rcases Classical.em (pr fr = 0) with h1 | h1
      · exact h1
      · unfold bgE at hb; rw [if_pos hm, if_neg h1] at hb; exact absurd rfl hb
    have e1 : bgE fr = 11 := by unfold bgE; rw [if_pos hm, if_pos h0]
    have e2 : szE fr = 0 := by unfold szE; rw [if_pos hm, h0]
    rw [e2, hm] at CS
    rw [e1]
    clear h hb hm h0 e1 e2
    go_enter Try.func34, Try.ntmps34
    go_wp2_with fail
    refine CS.out.mono ?_; rintro e' w' ⟨rfl, hw⟩
    have hw' := hw.symm
    subst hw'
    go_wp2
    go_ret2
    exact RetS.mk rfl
  · have e1 : bgE fr = mayE fr := by unfold bgE; rw [if_neg hm]
    rw [e1]
    obtain ⟨m, hmm⟩ : ∃ m, m = mayE fr := ⟨_, rfl⟩
    rw [← hmm] at CS hm ⊢
    have q0 : (m != 0) = true := by simpa using hm
    clear h hb hm e1 hmm
    go_enter Try.func34, Try.ntmps34
    go_wp2_with fail
    refine CS.out.mono ?_; rintro e' w' ⟨rfl, hw⟩
    have hw' := hw.symm
    subst hw'
    go_wp2
    go_ret2
    exact RetS.mk rfl
set_option maxHeartbeats 800000 in
theorem rbegin_ok {w : World} {ao : Option Addr} {n c : Nat} {fr : List Int} (h : Ls w ao n c fr) (hb : bgE fr = 0) :
    Calls Try.prog 34 #[.slice ao n c] w (RBegun4 w fr) := by
  have CS := Lib.hid (rsize_any h)
  have hm : mayE fr = 0 := by
    rcases Classical.em (mayE fr = 0) with h1 | h1
    · exact h1
    · unfold bgE at hb; rw [if_neg h1] at hb; exact hb
  have h0 : ¬ pr fr = 0 := fun h1 => by unfold bgE at hb; rw [if_pos hm, if_pos h1] at hb; exact absurd hb (by decide)
  have e2 : szE fr = pr fr := by unfold szE; rw [if_pos hm]
  rw [e2, hm] at CS
  have HFR : Hid (mayE fr = 0 ∧ 0 < pr fr) := ⟨hm, by have := pr_nonneg hm; omega⟩
  have hn8 : n ≤ 8 := by have h1 := (mayE_zero hm).2.1; have h2 := h.len; omega
  obtain ⟨m, HM⟩ : ∃ m, Hid (pr fr = m) := ⟨_, rfl⟩
  rw [HM.out] at CS h0
  have q0 : (m == 0) = false := by simpa using h0
  have H1 : Hid (Sp Non w w [Pt.ints 3 none 0 0 []]) := (Sp.start Non w).intsNew (E := 3) (zs := []) (World.ownsRow_nil _ _ _ _) (Below.refl _ _) (by omega) (fun i => by simp [List.getD])
  have HL := Lib.hid h
  have hb1 : (0 + n) * 8 ≤ 140737488351232 := by omega
  obtain ⟨i0, hi0, hza, hzb, hzc⟩ := info_parts (P := Try.prog) (e := 3) (z := .int .i64 0) (size := 1) (bytes := 8) (by kernel_rfl)
  have HI0 := Lib.hid (And.intro hi0 (And.intro hza (And.intro hzb hzc)))
  clear h hb hm h0 e2 hi0 hza hzb hzc
  go_enter Try.func34, Try.ntmps34
  go_wp2_with fail
  refine CS.out.mono ?_; rintro e' w' ⟨rfl, hw⟩
  have hw' := hw.symm
  subst hw'
  clear CS hw
  go_wp2_with (at_builtin; refine Sp.wpList_loc (i := 0) H1.out rfl _ _ 25 rfl 3 i0 Try.underlying25 HI0.out.1 HI0.out.2.1 HI0.out.2.2.1 HI0.out.2.2.2 rfl rfl rfl HL.out hb1 ?_)
  intro bo bd w2 h2
  have HF : Hid (RBegun4 w fr (.returned (.tuple #[.pointer (some ⟨w2.heap.size, 0, none⟩), .int .i64 0])) (w2.alloc (.cells #[.slice bo n bd, .slice none 0 0, .slice none 0 0] 134))) := by
    have h1 := ((h2.alloc 134 3 1 #[.slice bo n bd, .slice none 0 0, .slice none 0 0] rfl (by decide)).intsNew (E := 3) (zs := []) (World.ownsRow_nil _ _ _ _) (Below.refl _ _) (by omega) (fun i => by simp [List.getD]))
    have h3 := (h1.rowNil 45 2).allNil.pick [1, 0, 2, 3, 4] (by decide)
    refine ⟨w2.heap.size, rfl, ((h3.group 5).sub (i := 0) rfl (Pt.rjoiner w2.heap.size fr [] []) fun F hF => ⟨⟨bo, n, bd, none, 0, 0, none, 0, []⟩, ⟨HFR.out.1, HFR.out.2, Jok.start HFR.out.1, rfl⟩, hF⟩)⟩
  clear h2 H1
  go_wp2
  go_ret2
  exact HF.out
end Go.Proofs.Ythackmkdicpdeaa

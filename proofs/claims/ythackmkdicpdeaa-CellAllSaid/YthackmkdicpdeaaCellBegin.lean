/- Contract of cell.Begin. -/
import Derived.Test.YthackmkdicpdeaaCellMake
import Derived.Test.YthackmkdicpdeaaSep3
namespace Go.Proofs.Ythackmkdicpdeaa
open Go.RowKit Go.Lib
set_option linter.unusedVariables false
set_option linter.unusedSimpArgs false
attribute [local go_sem] alloc_drewN setCell_drewN
/-- Which number Begin answers. -/
def bgE (fr : List Int) : Int := if mayE fr = 0 then if pr fr = 0 then 11 else 0 else mayE fr
/-- Where a joiner's lists lie, and the arrays that it was given. -/
structure Jn where
  fo : Option Addr
  fn : Nat
  fc : Nat
  co : Option Addr
  cn : Nat
  cc : Nat
  go : Option Addr
  gc : Nat
  As : List Ar
def jnL (g : Nat) (fr c : List Int) (N : Nat) (x : Jn) : List Pt := [Pt.row ⟨126, 4, some ⟨g, 0, none⟩, 1, 1, [.slice x.fo x.fn x.fc, .int .i64 (pr fr), .slice x.co x.cn x.cc, .slice x.go N x.gc]⟩, Pt.ints 3 x.fo x.fn x.fc fr, Pt.ints 3 x.co x.cn x.cc c, Pt.row ⟨45, 2, x.go, N, x.gc, cellsA x.As⟩, Pt.all (x.As.map Pt.arr)]
/-- A joiner: its frame, the common shape, what it was given. -/
def Pt.joiner (g : Nat) (fr c : List Int) (G : List (List Int × List Int)) : Pt := Pt.ex fun x : Jn => Pt.pure (mayE fr = 0 ∧ 0 < pr fr ∧ Jok fr c G ∧ x.As.map Ar.sa2 = G) (Pt.all (jnL g fr c G.length x))
/-- A joiner of the call's own, with nothing in it. -/
def Begun4 (w : World) (fr : List Int) (e : Ending) (w' : World) : Prop := ∃ g, e = .returned (.tuple #[.pointer (some ⟨g, 0, none⟩), .int .i64 0]) ∧ Sp Non w w' [Pt.joiner g fr [] []]
set_option maxHeartbeats 800000 in
theorem begin_bad {w : World} {ao : Option Addr} {n c : Nat} {fr : List Int} (h : Ls w ao n c fr) (hb : bgE fr ≠ 0) :
    Calls Try.prog 25 #[.slice ao n c] w (RetS w (.tuple #[.pointer none, .int .i64 (bgE fr)])) := by
  have CS := Lib.hid (size_any h)
  by_cases hm : mayE fr = 0
  · have h0 : pr fr = 0 := by
      rcases Classical.em (pr fr = 0) with h1 | h1
      · exact h1
      · unfold bgE at hb; rw [if_pos hm, if_neg h1] at hb; exact absurd rfl hb
    have e1 : bgE fr = 11 := by unfold bgE; rw [if_pos hm, if_pos h0]
    have e2 : szE fr = 0 := by unfold szE; rw [if_pos hm, h0]
    rw [e2, hm] at CS
    rw [e1]
    clear h hb hm h0 e1 e2
    go_enter Try.func25, Try.ntmps25
    go_wp2_with fail
    refine CS.out.mono ?_; rintro e' w' ⟨rfl, hw⟩
    have hw' := hw.symm
    subst hw'
    go_wp2
    go_ret2
    exact RetS.mk rfl
  · have e1 : bgE fr = mayE fr := by unfold bgE; rw [if_neg hm]
    rw [e1]
    obtain ⟨m, hmm⟩ : ∃ m, m = mayE fr := ⟨_, rfl⟩
    rw [← hmm] at CS hm ⊢
    have q0 : (m != 0) = true := by simpa using hm
    clear h hb hm e1 hmm
    go_enter Try.func25, Try.ntmps25
    go_wp2_with fail
    refine CS.out.mono ?_; rintro e' w' ⟨rfl, hw⟩
    have hw' := hw.symm
    subst hw'
    go_wp2
    go_ret2
    exact RetS.mk rfl
set_option maxHeartbeats 800000 in
theorem begin_ok {w : World} {ao : Option Addr} {n c : Nat} {fr : List Int} (h : Ls w ao n c fr) (hb : bgE fr = 0) :
    Calls Try.prog 25 #[.slice ao n c] w (Begun4 w fr) := by
  have CS := Lib.hid (size_any h)
  have CC := Lib.hid (clone_any h)
  have hm : mayE fr = 0 := by
    rcases Classical.em (mayE fr = 0) with h1 | h1
    · exact h1
    · unfold bgE at hb; rw [if_neg h1] at hb; exact hb
  have h0 : ¬ pr fr = 0 := fun h1 => by unfold bgE at hb; rw [if_pos hm, if_pos h1] at hb; exact absurd hb (by decide)
  have e2 : szE fr = pr fr := by unfold szE; rw [if_pos hm]
  rw [e2, hm] at CS
  have HFR : Hid (mayE fr = 0 ∧ 0 < pr fr) := ⟨hm, by have := pr_nonneg hm; omega⟩
  obtain ⟨m, HM⟩ : ∃ m, Hid (pr fr = m) := ⟨_, rfl⟩
  rw [HM.out] at CS h0
  have q0 : (m == 0) = false := by simpa using h0
  clear h hb hm h0 e2
  go_enter Try.func25, Try.ntmps25
  go_wp2_with fail
  refine CS.out.mono ?_; rintro e' w' ⟨rfl, hw⟩
  have hw' := hw.symm
  subst hw'
  go_wp2_with fail
  refine CC.out.mono ?_; rintro e w2 ⟨ao2, c2, rfl, hL2, hO2, hB2⟩
  have HF : Hid (Begun4 w fr (.returned (.tuple #[.pointer (some ⟨w2.heap.size, 0, none⟩), .int .i64 0])) (w2.alloc (.cells #[.slice ao2 n c2, .int .i64 m, .slice none 0 0, .slice none 0 0] 126))) := by
    have h1 := ((((Sp.start Non w).intsNew hO2 hB2 hL2.big hL2.rng).alloc 126 4 1 #[.slice ao2 n c2, .int .i64 m, .slice none 0 0, .slice none 0 0] rfl (by decide)).intsNew (E := 3) (zs := []) (World.ownsRow_nil _ _ _ _) (Below.refl _ _) (by omega) (fun i => by simp [List.getD]))
    have h2 := (h1.rowNil 45 2).allNil.pick [1, 0, 2, 3, 4] (by decide)
    rw [← HM.out] at h2 ⊢
    refine ⟨w2.heap.size, rfl, ((h2.group 5).sub (i := 0) rfl (Pt.joiner w2.heap.size fr [] []) fun F hF => ⟨⟨ao2, n, c2, none, 0, 0, none, 0, []⟩, ⟨HFR.out.1, HFR.out.2, Jok.start HFR.out.1, rfl⟩, hF⟩)⟩
  clear hL2 hO2 hB2
  go_wp2
  go_ret2
  exact HF.out
end Go.Proofs.Ythackmkdicpdeaa

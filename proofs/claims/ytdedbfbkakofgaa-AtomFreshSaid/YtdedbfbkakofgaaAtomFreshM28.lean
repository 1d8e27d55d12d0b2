/- Contracts of the document's Size (abacusref2), May (abacusref3), Has (abacusref1), and of layer 5 (abacusref5). -/
import Derived.Test.YtdedbfbkakofgaaAtomFreshM24
import Derived.Test.YtdedbfbkakofgaaAtomFreshM16
import Derived.Test.YtdedbfbkakofgaaAtomFreshM27
namespace Go.Proofs.Ytdedbfbkakofgaa
open Go.RowKit Go.Lib
set_option linter.unusedVariables false
set_option linter.unusedSimpArgs false
attribute [local go_sem] alloc_drewN setCell_drewN

set_option maxHeartbeats 400000 in
theorem rsz_any {w : World} {ao : Option Addr} {n c : Nat} {s : List Int} (h : Ls w ao n c s) :
    Calls Try.prog 53 #[.slice ao n c] w (RetS w (.tuple #[.int .i64 (szE s), .int .i64 (mayE s)])) := by
  have A := Lib.hid (rmay_any h)
  obtain ⟨e, HE⟩ : ∃ z, Hid (mayE s = z) := ⟨_, rfl⟩
  rw [HE.out] at A ⊢
  by_cases he : e = 0
  · subst he
    have C := Lib.hid (rcount_any h HE.out)
    have HZ : Hid (szE s = pr s) := by show _ = _; simp [szE, HE.out]
    rw [HZ.out]
    clear h
    go_enter Try.func53, Try.ntmps53
    go_wp2_with fail
    refine A.out.mono ?_; rintro e w' ⟨rfl, rfl⟩
    go_wp2_with fail
    refine C.out.mono ?_; rintro e w' ⟨rfl, rfl⟩
    go_wp2
    go_ret2
    exact RetS.mk rfl
  · have he' : (e != 0) = true := by simpa using he
    have HZ : Hid (szE s = 0) := by show _ = _; simp [szE, HE.out, he]
    rw [HZ.out]
    clear h
    go_enter Try.func53, Try.ntmps53
    go_wp2_with fail
    refine A.out.mono ?_; rintro e w' ⟨rfl, rfl⟩
    go_wp2
    go_ret2
    exact RetS.mk rfl
set_option maxHeartbeats 400000 in
theorem rmay3_any {w : World} {A : Ar} (hA : A.Is w) :
    Calls Try.prog 66 #[A.v] w (RetB w (.int .i64 (amE A.s A.a))) := by
  obtain ⟨sa, sn, sc, aa, an, ac, s, a⟩ := A
  obtain ⟨h1, h2⟩ := hA
  simp only [Ar.v] at *
  have hw : Below w.heap.size w (w.alloc (.cells #[.slice sa sn sc, .slice aa an ac] 55)) := below_one _ _ _ 0
  have S := Lib.hid (rsz_any (h1.below hw (Nat.le_refl _)))
  have HW := Lib.hid hw
  have l2 := h2.len
  obtain ⟨e, HE⟩ : ∃ z, Hid (mayE s = z) := ⟨_, rfl⟩
  obtain ⟨z, HZ⟩ : ∃ z, Hid (szE s = z) := ⟨_, rfl⟩
  rw [HE.out, HZ.out] at S
  obtain ⟨r, HR⟩ : ∃ z, Hid (amE s a = z) := ⟨_, rfl⟩
  rw [HR.out]
  by_cases he : e = 0
  · subst he
    have hz : z = pr s := by rw [← HZ.out]; simp [szE, HE.out]
    by_cases hn : (an : Int) = z
    · have HF : Hid (r = 0) := by show _ = _; rw [← HR.out]; simp [amE, HE.out, ← hz, ← hn, l2]
      have hq : ((an : Int) != z) = false := by simpa using hn
      clear h1 h2 hw l2 hz hn
      go_enter Try.func66, Try.ntmps66
      go_wp2_with fail
      refine S.out.mono ?_; rintro e w' ⟨rfl, rfl⟩
      go_wp2
      go_ret
      exact RetB.mk (intv HF.out.symm) HW.out
    · have HF : Hid (r = 1) := by show _ = _; rw [← HR.out]; simp only [amE, HE.out, ← hz, l2]; simp only [if_true]; rw [if_neg (fun e => hn e.symm)]
      have hq : ((an : Int) != z) = true := by simpa using hn
      clear h1 h2 hw l2 hz hn
      go_enter Try.func66, Try.ntmps66
      go_wp2_with fail
      refine S.out.mono ?_; rintro e w' ⟨rfl, rfl⟩
      go_wp2
      go_ret
      exact RetB.mk (intv HF.out.symm) HW.out
  · have he' : (e != 0) = true := by simpa using he
    have HF : Hid (r = e) := by show _ = _; rw [← HR.out]; simp [amE, HE.out, he]
    clear h1 h2 hw l2 he
    go_enter Try.func66, Try.ntmps66
    go_wp2_with fail
    refine S.out.mono ?_; rintro e w' ⟨rfl, rfl⟩
    go_wp2
    go_ret
    exact RetB.mk (intv HF.out.symm) HW.out
theorem hasV_other (op : Int) {v : Int} (h1 : ¬ v = 1) (h2 : ¬ v = 2) : hasV op v = false := by unfold hasV; rw [if_neg h1, if_neg h2]
set_option maxHeartbeats 400000 in
theorem rhas_1 (v : Int) (w : World) : Calls Try.prog 81 #[.int .i64 1, .int .i64 v] w (Ret w (.bool (hasV 1 v))) := by
  by_cases h1 : v = 1
  · subst h1
    rw [show hasV 1 1 = true by decide]
    go_enter Try.func81, Try.ntmps81
    go_wp2
    go_ret
    exact Ret.mk0 rfl
  · by_cases h2 : v = 2
    · subst h2
      rw [show hasV 1 2 = true by decide]
      go_enter Try.func81, Try.ntmps81
      go_wp2
      go_ret
      exact Ret.mk0 rfl
    · rw [hasV_other 1 h1 h2]
      have q1 : (v == 1) = false := by simpa using h1
      have q2 : (v == 2) = false := by simpa using h2
      go_enter Try.func81, Try.ntmps81
      go_wp2
      go_ret
      exact Ret.mk0 rfl
set_option maxHeartbeats 400000 in
theorem rhas_2 (v : Int) (w : World) : Calls Try.prog 81 #[.int .i64 2, .int .i64 v] w (Ret w (.bool (hasV 2 v))) := by
  by_cases h1 : v = 1
  · subst h1
    rw [show hasV 2 1 = true by decide]
    go_enter Try.func81, Try.ntmps81
    go_wp2
    go_ret
    exact Ret.mk0 rfl
  · by_cases h2 : v = 2
    · subst h2
      rw [show hasV 2 2 = true by decide]
      go_enter Try.func81, Try.ntmps81
      go_wp2
      go_ret
      exact Ret.mk0 rfl
    · rw [hasV_other 2 h1 h2]
      have q1 : (v == 1) = false := by simpa using h1
      have q2 : (v == 2) = false := by simpa using h2
      go_enter Try.func81, Try.ntmps81
      go_wp2
      go_ret
      exact Ret.mk0 rfl
set_option maxHeartbeats 400000 in
theorem rhas_3 (v : Int) (w : World) : Calls Try.prog 81 #[.int .i64 3, .int .i64 v] w (Ret w (.bool (hasV 3 v))) := by
  by_cases h1 : v = 1
  · subst h1
    rw [show hasV 3 1 = true by decide]
    go_enter Try.func81, Try.ntmps81
    go_wp2
    go_ret
    exact Ret.mk0 rfl
  · by_cases h2 : v = 2
    · subst h2
      rw [show hasV 3 2 = true by decide]
      go_enter Try.func81, Try.ntmps81
      go_wp2
      go_ret
      exact Ret.mk0 rfl
    · rw [hasV_other 3 h1 h2]
      have q1 : (v == 1) = false := by simpa using h1
      have q2 : (v == 2) = false := by simpa using h2
      go_enter Try.func81, Try.ntmps81
      go_wp2
      go_ret
      exact Ret.mk0 rfl
set_option maxHeartbeats 400000 in
theorem rhas_4 (v : Int) (w : World) : Calls Try.prog 81 #[.int .i64 4, .int .i64 v] w (Ret w (.bool (hasV 4 v))) := by
  by_cases h1 : v = 1
  · subst h1
    rw [show hasV 4 1 = false by decide]
    go_enter Try.func81, Try.ntmps81
    go_wp2
    go_ret
    exact Ret.mk0 rfl
  · by_cases h2 : v = 2
    · subst h2
      rw [show hasV 4 2 = true by decide]
      go_enter Try.func81, Try.ntmps81
      go_wp2
      go_ret
      exact Ret.mk0 rfl
    · rw [hasV_other 4 h1 h2]
      have q1 : (v == 1) = false := by simpa using h1
      have q2 : (v == 2) = false := by simpa using h2
      go_enter Try.func81, Try.ntmps81
      go_wp2
      go_ret
      exact Ret.mk0 rfl
set_option maxHeartbeats 400000 in
theorem rhas_5 (v : Int) (w : World) : Calls Try.prog 81 #[.int .i64 5, .int .i64 v] w (Ret w (.bool (hasV 5 v))) := by
  by_cases h1 : v = 1
  · subst h1
    rw [show hasV 5 1 = true by decide]
    go_enter Try.func81, Try.ntmps81
    go_wp2
    go_ret
    exact Ret.mk0 rfl
  · by_cases h2 : v = 2
    · subst h2
      rw [show hasV 5 2 = true by decide]
      go_enter Try.func81, Try.ntmps81
      go_wp2
      go_ret
      exact Ret.mk0 rfl
    · rw [hasV_other 5 h1 h2]
      have q1 : (v == 1) = false := by simpa using h1
      have q2 : (v == 2) = false := by simpa using h2
      go_enter Try.func81, Try.ntmps81
      go_wp2
      go_ret
      exact Ret.mk0 rfl
set_option maxHeartbeats 400000 in
theorem rhas_6 (v : Int) (w : World) : Calls Try.prog 81 #[.int .i64 6, .int .i64 v] w (Ret w (.bool (hasV 6 v))) := by
  by_cases h1 : v = 1
  · subst h1
    rw [show hasV 6 1 = true by decide]
    go_enter Try.func81, Try.ntmps81
    go_wp2
    go_ret
    exact Ret.mk0 rfl
  · by_cases h2 : v = 2
    · subst h2
      rw [show hasV 6 2 = true by decide]
      go_enter Try.func81, Try.ntmps81
      go_wp2
      go_ret
      exact Ret.mk0 rfl
    · rw [hasV_other 6 h1 h2]
      have q1 : (v == 1) = false := by simpa using h1
      have q2 : (v == 2) = false := by simpa using h2
      go_enter Try.func81, Try.ntmps81
      go_wp2
      go_ret
      exact Ret.mk0 rfl
set_option maxHeartbeats 400000 in
theorem rhas_7 (v : Int) (w : World) : Calls Try.prog 81 #[.int .i64 7, .int .i64 v] w (Ret w (.bool (hasV 7 v))) := by
  by_cases h1 : v = 1
  · subst h1
    rw [show hasV 7 1 = true by decide]
    go_enter Try.func81, Try.ntmps81
    go_wp2
    go_ret
    exact Ret.mk0 rfl
  · by_cases h2 : v = 2
    · subst h2
      rw [show hasV 7 2 = true by decide]
      go_enter Try.func81, Try.ntmps81
      go_wp2
      go_ret
      exact Ret.mk0 rfl
    · rw [hasV_other 7 h1 h2]
      have q1 : (v == 1) = false := by simpa using h1
      have q2 : (v == 2) = false := by simpa using h2
      go_enter Try.func81, Try.ntmps81
      go_wp2
      go_ret
      exact Ret.mk0 rfl
set_option maxHeartbeats 400000 in
theorem rhas_8 (v : Int) (w : World) : Calls Try.prog 81 #[.int .i64 8, .int .i64 v] w (Ret w (.bool (hasV 8 v))) := by
  by_cases h1 : v = 1
  · subst h1
    rw [show hasV 8 1 = false by decide]
    go_enter Try.func81, Try.ntmps81
    go_wp2
    go_ret
    exact Ret.mk0 rfl
  · by_cases h2 : v = 2
    · subst h2
      rw [show hasV 8 2 = true by decide]
      go_enter Try.func81, Try.ntmps81
      go_wp2
      go_ret
      exact Ret.mk0 rfl
    · rw [hasV_other 8 h1 h2]
      have q1 : (v == 1) = false := by simpa using h1
      have q2 : (v == 2) = false := by simpa using h2
      go_enter Try.func81, Try.ntmps81
      go_wp2
      go_ret
      exact Ret.mk0 rfl
set_option maxHeartbeats 400000 in
theorem rhas_9 (v : Int) (w : World) : Calls Try.prog 81 #[.int .i64 9, .int .i64 v] w (Ret w (.bool (hasV 9 v))) := by
  by_cases h1 : v = 1
  · subst h1
    rw [show hasV 9 1 = false by decide]
    go_enter Try.func81, Try.ntmps81
    go_wp2
    go_ret
    exact Ret.mk0 rfl
  · by_cases h2 : v = 2
    · subst h2
      rw [show hasV 9 2 = true by decide]
      go_enter Try.func81, Try.ntmps81
      go_wp2
      go_ret
      exact Ret.mk0 rfl
    · rw [hasV_other 9 h1 h2]
      have q1 : (v == 1) = false := by simpa using h1
      have q2 : (v == 2) = false := by simpa using h2
      go_enter Try.func81, Try.ntmps81
      go_wp2
      go_ret
      exact Ret.mk0 rfl
set_option maxHeartbeats 400000 in
theorem rhas_10 (v : Int) (w : World) : Calls Try.prog 81 #[.int .i64 10, .int .i64 v] w (Ret w (.bool (hasV 10 v))) := by
  by_cases h1 : v = 1
  · subst h1
    rw [show hasV 10 1 = false by decide]
    go_enter Try.func81, Try.ntmps81
    go_wp2
    go_ret
    exact Ret.mk0 rfl
  · by_cases h2 : v = 2
    · subst h2
      rw [show hasV 10 2 = true by decide]
      go_enter Try.func81, Try.ntmps81
      go_wp2
      go_ret
      exact Ret.mk0 rfl
    · rw [hasV_other 10 h1 h2]
      have q1 : (v == 1) = false := by simpa using h1
      have q2 : (v == 2) = false := by simpa using h2
      go_enter Try.func81, Try.ntmps81
      go_wp2
      go_ret
      exact Ret.mk0 rfl
set_option maxHeartbeats 400000 in
theorem rhas_11 (v : Int) (w : World) : Calls Try.prog 81 #[.int .i64 11, .int .i64 v] w (Ret w (.bool (hasV 11 v))) := by
  by_cases h1 : v = 1
  · subst h1
    rw [show hasV 11 1 = false by decide]
    go_enter Try.func81, Try.ntmps81
    go_wp2
    go_ret
    exact Ret.mk0 rfl
  · by_cases h2 : v = 2
    · subst h2
      rw [show hasV 11 2 = true by decide]
      go_enter Try.func81, Try.ntmps81
      go_wp2
      go_ret
      exact Ret.mk0 rfl
    · rw [hasV_other 11 h1 h2]
      have q1 : (v == 1) = false := by simpa using h1
      have q2 : (v == 2) = false := by simpa using h2
      go_enter Try.func81, Try.ntmps81
      go_wp2
      go_ret
      exact Ret.mk0 rfl
set_option maxHeartbeats 400000 in
theorem rhas_12 (v : Int) (w : World) : Calls Try.prog 81 #[.int .i64 12, .int .i64 v] w (Ret w (.bool (hasV 12 v))) := by
  by_cases h1 : v = 1
  · subst h1
    rw [show hasV 12 1 = true by decide]
    go_enter Try.func81, Try.ntmps81
    go_wp2
    go_ret
    exact Ret.mk0 rfl
  · by_cases h2 : v = 2
    · subst h2
      rw [show hasV 12 2 = true by decide]
      go_enter Try.func81, Try.ntmps81
      go_wp2
      go_ret
      exact Ret.mk0 rfl
    · rw [hasV_other 12 h1 h2]
      have q1 : (v == 1) = false := by simpa using h1
      have q2 : (v == 2) = false := by simpa using h2
      go_enter Try.func81, Try.ntmps81
      go_wp2
      go_ret
      exact Ret.mk0 rfl
set_option maxHeartbeats 400000 in
theorem rhas_13 (v : Int) (w : World) : Calls Try.prog 81 #[.int .i64 13, .int .i64 v] w (Ret w (.bool (hasV 13 v))) := by
  by_cases h1 : v = 1
  · subst h1
    rw [show hasV 13 1 = true by decide]
    go_enter Try.func81, Try.ntmps81
    go_wp2
    go_ret
    exact Ret.mk0 rfl
  · by_cases h2 : v = 2
    · subst h2
      rw [show hasV 13 2 = true by decide]
      go_enter Try.func81, Try.ntmps81
      go_wp2
      go_ret
      exact Ret.mk0 rfl
    · rw [hasV_other 13 h1 h2]
      have q1 : (v == 1) = false := by simpa using h1
      have q2 : (v == 2) = false := by simpa using h2
      go_enter Try.func81, Try.ntmps81
      go_wp2
      go_ret
      exact Ret.mk0 rfl
set_option maxHeartbeats 400000 in
theorem rhas_14 (v : Int) (w : World) : Calls Try.prog 81 #[.int .i64 14, .int .i64 v] w (Ret w (.bool (hasV 14 v))) := by
  by_cases h1 : v = 1
  · subst h1
    rw [show hasV 14 1 = false by decide]
    go_enter Try.func81, Try.ntmps81
    go_wp2
    go_ret
    exact Ret.mk0 rfl
  · by_cases h2 : v = 2
    · subst h2
      rw [show hasV 14 2 = true by decide]
      go_enter Try.func81, Try.ntmps81
      go_wp2
      go_ret
      exact Ret.mk0 rfl
    · rw [hasV_other 14 h1 h2]
      have q1 : (v == 1) = false := by simpa using h1
      have q2 : (v == 2) = false := by simpa using h2
      go_enter Try.func81, Try.ntmps81
      go_wp2
      go_ret
      exact Ret.mk0 rfl
set_option maxHeartbeats 400000 in
theorem rhas_15 (v : Int) (w : World) : Calls Try.prog 81 #[.int .i64 15, .int .i64 v] w (Ret w (.bool (hasV 15 v))) := by
  by_cases h1 : v = 1
  · subst h1
    rw [show hasV 15 1 = false by decide]
    go_enter Try.func81, Try.ntmps81
    go_wp2
    go_ret
    exact Ret.mk0 rfl
  · by_cases h2 : v = 2
    · subst h2
      rw [show hasV 15 2 = true by decide]
      go_enter Try.func81, Try.ntmps81
      go_wp2
      go_ret
      exact Ret.mk0 rfl
    · rw [hasV_other 15 h1 h2]
      have q1 : (v == 1) = false := by simpa using h1
      have q2 : (v == 2) = false := by simpa using h2
      go_enter Try.func81, Try.ntmps81
      go_wp2
      go_ret
      exact Ret.mk0 rfl
set_option maxHeartbeats 400000 in
theorem rhas_16 (v : Int) (w : World) : Calls Try.prog 81 #[.int .i64 16, .int .i64 v] w (Ret w (.bool (hasV 16 v))) := by
  by_cases h1 : v = 1
  · subst h1
    rw [show hasV 16 1 = true by decide]
    go_enter Try.func81, Try.ntmps81
    go_wp2
    go_ret
    exact Ret.mk0 rfl
  · by_cases h2 : v = 2
    · subst h2
      rw [show hasV 16 2 = true by decide]
      go_enter Try.func81, Try.ntmps81
      go_wp2
      go_ret
      exact Ret.mk0 rfl
    · rw [hasV_other 16 h1 h2]
      have q1 : (v == 1) = false := by simpa using h1
      have q2 : (v == 2) = false := by simpa using h2
      go_enter Try.func81, Try.ntmps81
      go_wp2
      go_ret
      exact Ret.mk0 rfl
set_option maxHeartbeats 400000 in
theorem rhas_17 (v : Int) (w : World) : Calls Try.prog 81 #[.int .i64 17, .int .i64 v] w (Ret w (.bool (hasV 17 v))) := by
  by_cases h1 : v = 1
  · subst h1
    rw [show hasV 17 1 = true by decide]
    go_enter Try.func81, Try.ntmps81
    go_wp2
    go_ret
    exact Ret.mk0 rfl
  · by_cases h2 : v = 2
    · subst h2
      rw [show hasV 17 2 = true by decide]
      go_enter Try.func81, Try.ntmps81
      go_wp2
      go_ret
      exact Ret.mk0 rfl
    · rw [hasV_other 17 h1 h2]
      have q1 : (v == 1) = false := by simpa using h1
      have q2 : (v == 2) = false := by simpa using h2
      go_enter Try.func81, Try.ntmps81
      go_wp2
      go_ret
      exact Ret.mk0 rfl
set_option maxHeartbeats 400000 in
theorem rhas_18 (v : Int) (w : World) : Calls Try.prog 81 #[.int .i64 18, .int .i64 v] w (Ret w (.bool (hasV 18 v))) := by
  by_cases h1 : v = 1
  · subst h1
    rw [show hasV 18 1 = true by decide]
    go_enter Try.func81, Try.ntmps81
    go_wp2
    go_ret
    exact Ret.mk0 rfl
  · by_cases h2 : v = 2
    · subst h2
      rw [show hasV 18 2 = false by decide]
      go_enter Try.func81, Try.ntmps81
      go_wp2
      go_ret
      exact Ret.mk0 rfl
    · rw [hasV_other 18 h1 h2]
      have q1 : (v == 1) = false := by simpa using h1
      have q2 : (v == 2) = false := by simpa using h2
      go_enter Try.func81, Try.ntmps81
      go_wp2
      go_ret
      exact Ret.mk0 rfl
set_option maxHeartbeats 400000 in
theorem rhas_19 (v : Int) (w : World) : Calls Try.prog 81 #[.int .i64 19, .int .i64 v] w (Ret w (.bool (hasV 19 v))) := by
  by_cases h1 : v = 1
  · subst h1
    rw [show hasV 19 1 = true by decide]
    go_enter Try.func81, Try.ntmps81
    go_wp2
    go_ret
    exact Ret.mk0 rfl
  · by_cases h2 : v = 2
    · subst h2
      rw [show hasV 19 2 = false by decide]
      go_enter Try.func81, Try.ntmps81
      go_wp2
      go_ret
      exact Ret.mk0 rfl
    · rw [hasV_other 19 h1 h2]
      have q1 : (v == 1) = false := by simpa using h1
      have q2 : (v == 2) = false := by simpa using h2
      go_enter Try.func81, Try.ntmps81
      go_wp2
      go_ret
      exact Ret.mk0 rfl
set_option maxHeartbeats 400000 in
theorem rhas_20 (v : Int) (w : World) : Calls Try.prog 81 #[.int .i64 20, .int .i64 v] w (Ret w (.bool (hasV 20 v))) := by
  by_cases h1 : v = 1
  · subst h1
    rw [show hasV 20 1 = false by decide]
    go_enter Try.func81, Try.ntmps81
    go_wp2
    go_ret
    exact Ret.mk0 rfl
  · by_cases h2 : v = 2
    · subst h2
      rw [show hasV 20 2 = true by decide]
      go_enter Try.func81, Try.ntmps81
      go_wp2
      go_ret
      exact Ret.mk0 rfl
    · rw [hasV_other 20 h1 h2]
      have q1 : (v == 1) = false := by simpa using h1
      have q2 : (v == 2) = false := by simpa using h2
      go_enter Try.func81, Try.ntmps81
      go_wp2
      go_ret
      exact Ret.mk0 rfl
set_option maxHeartbeats 400000 in
theorem rhas_21 (v : Int) (w : World) : Calls Try.prog 81 #[.int .i64 21, .int .i64 v] w (Ret w (.bool (hasV 21 v))) := by
  by_cases h1 : v = 1
  · subst h1
    rw [show hasV 21 1 = true by decide]
    go_enter Try.func81, Try.ntmps81
    go_wp2
    go_ret
    exact Ret.mk0 rfl
  · by_cases h2 : v = 2
    · subst h2
      rw [show hasV 21 2 = true by decide]
      go_enter Try.func81, Try.ntmps81
      go_wp2
      go_ret
      exact Ret.mk0 rfl
    · rw [hasV_other 21 h1 h2]
      have q1 : (v == 1) = false := by simpa using h1
      have q2 : (v == 2) = false := by simpa using h2
      go_enter Try.func81, Try.ntmps81
      go_wp2
      go_ret
      exact Ret.mk0 rfl
theorem hasV_out {op : Int} (h : ¬ (1 ≤ op ∧ op ≤ 21)) (v : Int) : hasV op v = false := by
  have e1 : moE op 0 = 1 := (mo_out h).2
  have e2 : dyE op 1 1 = 1 := (dy_out h).2
  unfold hasV has1 has2
  rw [e1, e2]
  split
  · decide
  · split
    · decide
    · rfl
set_option maxHeartbeats 400000 in
theorem rhas_out (op v : Int) (w : World) (h : ¬ (1 ≤ op ∧ op ≤ 21)) : Calls Try.prog 81 #[.int .i64 op, .int .i64 v] w (Ret w (.bool (hasV op v))) := by
  rw [hasV_out h]
  by_cases h1 : op < 1
  · clear h
    go_enter Try.func81, Try.ntmps81
    go_wp2
    go_ret
    exact Ret.mk0 rfl
  · have h2 : 21 < op := by omega
    clear h
    go_enter Try.func81, Try.ntmps81
    go_wp2
    go_ret
    exact Ret.mk0 rfl
theorem in21 {op : Int} (h : 1 ≤ op ∧ op ≤ 21) : op = 1 ∨ op = 2 ∨ op = 3 ∨ op = 4 ∨ op = 5 ∨ op = 6 ∨ op = 7 ∨ op = 8 ∨ op = 9 ∨ op = 10 ∨ op = 11 ∨ op = 12 ∨ op = 13 ∨ op = 14 ∨ op = 15 ∨ op = 16 ∨ op = 17 ∨ op = 18 ∨ op = 19 ∨ op = 20 ∨ op = 21 := by omega
theorem rhas_any (op v : Int) (w : World) : Calls Try.prog 81 #[.int .i64 op, .int .i64 v] w (Ret w (.bool (hasV op v))) := by
  by_cases h : 1 ≤ op ∧ op ≤ 21
  · rcases in21 h with rfl | rfl | rfl | rfl | rfl | rfl | rfl | rfl | rfl | rfl | rfl | rfl | rfl | rfl | rfl | rfl | rfl | rfl | rfl | rfl | rfl
    · exact rhas_1 v w
    · exact rhas_2 v w
    · exact rhas_3 v w
    · exact rhas_4 v w
    · exact rhas_5 v w
    · exact rhas_6 v w
    · exact rhas_7 v w
    · exact rhas_8 v w
    · exact rhas_9 v w
    · exact rhas_10 v w
    · exact rhas_11 v w
    · exact rhas_12 v w
    · exact rhas_13 v w
    · exact rhas_14 v w
    · exact rhas_15 v w
    · exact rhas_16 v w
    · exact rhas_17 v w
    · exact rhas_18 v w
    · exact rhas_19 v w
    · exact rhas_20 v w
    · exact rhas_21 v w
  · exact rhas_out op v w h
theorem ref_row (op : Int) : (refV op 1 = if rowB op then (if hasV op 1 then 0 else 16) else 1) ∧ (refV op 2 = if rowB op then (if hasV op 2 then 0 else 16) else 1) := by
  by_cases h : 1 ≤ op ∧ op ≤ 21
  · rcases in21 h with rfl | rfl | rfl | rfl | rfl | rfl | rfl | rfl | rfl | rfl | rfl | rfl | rfl | rfl | rfl | rfl | rfl | rfl | rfl | rfl | rfl
    all_goals decide
  · rw [rowB_no h]
    unfold refV
    rw [hasV_out h, hasV_out h, hasV_out h, hasV_out h]
    exact ⟨rfl, rfl⟩
set_option maxHeartbeats 400000 in
theorem r5has_any (op v : Int) (w : World) : Calls Try.prog 32 #[.int .i64 op, .int .i64 v] w (Ret w (.bool (hasV op v))) := by
  have C := Lib.hid (rhas_any op v w)
  obtain ⟨b, HB⟩ : ∃ z, Hid (hasV op v = z) := ⟨_, rfl⟩
  rw [HB.out] at C ⊢
  go_enter Try.func32, Try.ntmps32
  go_wp2_with fail
  refine C.out.mono ?_; rintro e w' ⟨rfl, n, rfl⟩
  go_wp2
  go_ret
  exact Ret.mk _ rfl
end Go.Proofs.Ytdedbfbkakofgaa

/- Contracts of atom.Has and of why a verb is refused. -/
import Derived.Test.YtdedbfbkakofgaaNumCalls
import Derived.Test.YtdedbfbkakofgaaAtomPlain
namespace Go.Proofs.Ytdedbfbkakofgaa
open Go.RowKit
set_option linter.unusedVariables false
set_option linter.unusedSimpArgs false
attribute [local go_sem] alloc_drewN setCell_drewN

set_option maxHeartbeats 400000 in
theorem has_one (op : Int) (w : World) : Calls Try.prog 31 #[.int .i64 op, .int .i64 1] w (Ret w (.bool (hasV op 1))) := by
  have C := Lib.hid (monad_any op 0 w (by omega))
  obtain ⟨e, HE⟩ : ∃ e, Hid (moE op 0 = e) := ⟨_, rfl⟩
  rw [HE.out] at C
  have HF : Hid (hasV op 1 = (decide (e ≠ 1) && decide (e ≠ 16))) := by show _ = _; rw [hasV1, has1, HE.out]
  rw [HF.out]
  go_enter Try.func31, Try.ntmps31
  go_wp2_with fail
  refine C.out.mono ?_; rintro e' w' ⟨rfl, n, rfl⟩
  by_cases h1 : e = 1
  · subst h1
    go_wp2
    go_ret
    exact Ret.mk _ (boolv (by simp))
  · have h1' : (e != 1) = true := by simpa using h1
    by_cases h2 : e = 16
    · subst h2
      go_wp2
      go_ret
      exact Ret.mk _ (boolv (by simp))
    · have h2' : (e != 16) = true := by simpa using h2
      go_wp2
      go_ret
      exact Ret.mk _ (boolv (by simp [h1, h2]))
set_option maxHeartbeats 400000 in
theorem has_two (op : Int) (w : World) : Calls Try.prog 31 #[.int .i64 op, .int .i64 2] w (Ret w (.bool (hasV op 2))) := by
  have C := Lib.hid (dyad_any op 1 1 w (by omega) (by omega))
  obtain ⟨e, HE⟩ : ∃ e, Hid (dyE op 1 1 = e) := ⟨_, rfl⟩
  rw [HE.out] at C
  have HF : Hid (hasV op 2 = (decide (e ≠ 1) && decide (e ≠ 16))) := by show _ = _; rw [hasV2, has2, HE.out]
  rw [HF.out]
  go_enter Try.func31, Try.ntmps31
  go_wp2_with fail
  refine C.out.mono ?_; rintro e' w' ⟨rfl, n, rfl⟩
  by_cases h1 : e = 1
  · subst h1
    go_wp2
    go_ret
    exact Ret.mk _ (boolv (by simp))
  · have h1' : (e != 1) = true := by simpa using h1
    by_cases h2 : e = 16
    · subst h2
      go_wp2
      go_ret
      exact Ret.mk _ (boolv (by simp))
    · have h2' : (e != 16) = true := by simpa using h2
      go_wp2
      go_ret
      exact Ret.mk _ (boolv (by simp [h1, h2]))
theorem has_else (op v : Int) (w : World) (h1 : v ≠ 1) (h2 : v ≠ 2) : Calls Try.prog 31 #[.int .i64 op, .int .i64 v] w (Ret w (.bool (hasV op v))) := by
  have HF : Hid (hasV op v = false) := by show _ = _; simp [hasV, h1, h2]
  rw [HF.out]
  have h1' : (v == 1) = false := by simpa using h1
  have h2' : (v == 2) = false := by simpa using h2
  have h1'' : (1 == v) = false := by simpa using Ne.symm h1
  have h2'' : (2 == v) = false := by simpa using Ne.symm h2
  go_enter Try.func31, Try.ntmps31
  go_wp2
  go_ret
  exact Ret.mk 0 rfl
theorem has_any (op v : Int) (w : World) : Calls Try.prog 31 #[.int .i64 op, .int .i64 v] w (Ret w (.bool (hasV op v))) := by
  by_cases h1 : v = 1
  · subst h1; exact has_one op w
  · by_cases h2 : v = 2
    · subst h2; exact has_two op w
    · exact has_else op v w h1 h2
set_option maxHeartbeats 400000 in
theorem refused_one (op : Int) (w : World) : Calls Try.prog 84 #[.int .i64 op, .int .i64 1] w (Ret w (.int .i64 (refV op 1))) := by
  have C1 := Lib.hid (has_any op 1 w)
  have C2 := Lib.hid (fun n => has_any op 2 (w.drewN n))
  obtain ⟨b, HB⟩ : ∃ b, Hid (hasV op 1 = b) := ⟨_, rfl⟩
  obtain ⟨c, HC⟩ : ∃ c, Hid (hasV op 2 = c) := ⟨_, rfl⟩
  rw [HB.out] at C1
  rw [HC.out] at C2
  have hf : refV op 1 = if b then 0 else if c then 16 else 1 := by rw [refV, HB.out, show (3 - 1 : Int) = 2 from rfl, HC.out]
  obtain ⟨r, HR⟩ : ∃ r, Hid (refV op 1 = r) := ⟨_, rfl⟩
  rw [HR.out] at hf ⊢
  cases b
  · cases c
    · have HF : Hid (1 = r) := by show _ = _; rw [hf]; rfl
      clear hf
      go_enter Try.func84, Try.ntmps84
      go_wp2_with fail
      refine C1.out.mono ?_; rintro e' w' ⟨rfl, n, rfl⟩
      go_wp2_with fail
      refine (C2.out n).mono ?_; rintro e' w' ⟨rfl, m, rfl⟩
      go_wp2
      go_ret
      exact Ret.mk _ (intv HF.out)
    · have HF : Hid (16 = r) := by show _ = _; rw [hf]; rfl
      clear hf
      go_enter Try.func84, Try.ntmps84
      go_wp2_with fail
      refine C1.out.mono ?_; rintro e' w' ⟨rfl, n, rfl⟩
      go_wp2_with fail
      refine (C2.out n).mono ?_; rintro e' w' ⟨rfl, m, rfl⟩
      go_wp2
      go_ret
      exact Ret.mk _ (intv HF.out)
  · have HF : Hid (0 = r) := by show _ = _; rw [hf]; rfl
    clear hf
    go_enter Try.func84, Try.ntmps84
    go_wp2_with fail
    refine C1.out.mono ?_; rintro e' w' ⟨rfl, n, rfl⟩
    go_wp2
    go_ret
    exact Ret.mk _ (intv HF.out)
set_option maxHeartbeats 400000 in
theorem refused_two (op : Int) (w : World) : Calls Try.prog 84 #[.int .i64 op, .int .i64 2] w (Ret w (.int .i64 (refV op 2))) := by
  have C1 := Lib.hid (has_any op 2 w)
  have C2 := Lib.hid (fun n => has_any op 1 (w.drewN n))
  obtain ⟨b, HB⟩ : ∃ b, Hid (hasV op 2 = b) := ⟨_, rfl⟩
  obtain ⟨c, HC⟩ : ∃ c, Hid (hasV op 1 = c) := ⟨_, rfl⟩
  rw [HB.out] at C1
  rw [HC.out] at C2
  have hf : refV op 2 = if b then 0 else if c then 16 else 1 := by rw [refV, HB.out, show (3 - 2 : Int) = 1 from rfl, HC.out]
  obtain ⟨r, HR⟩ : ∃ r, Hid (refV op 2 = r) := ⟨_, rfl⟩
  rw [HR.out] at hf ⊢
  cases b
  · cases c
    · have HF : Hid (1 = r) := by show _ = _; rw [hf]; rfl
      clear hf
      go_enter Try.func84, Try.ntmps84
      go_wp2_with fail
      refine C1.out.mono ?_; rintro e' w' ⟨rfl, n, rfl⟩
      go_wp2_with fail
      refine (C2.out n).mono ?_; rintro e' w' ⟨rfl, m, rfl⟩
      go_wp2
      go_ret
      exact Ret.mk _ (intv HF.out)
    · have HF : Hid (16 = r) := by show _ = _; rw [hf]; rfl
      clear hf
      go_enter Try.func84, Try.ntmps84
      go_wp2_with fail
      refine C1.out.mono ?_; rintro e' w' ⟨rfl, n, rfl⟩
      go_wp2_with fail
      refine (C2.out n).mono ?_; rintro e' w' ⟨rfl, m, rfl⟩
      go_wp2
      go_ret
      exact Ret.mk _ (intv HF.out)
  · have HF : Hid (0 = r) := by show _ = _; rw [hf]; rfl
    clear hf
    go_enter Try.func84, Try.ntmps84
    go_wp2_with fail
    refine C1.out.mono ?_; rintro e' w' ⟨rfl, n, rfl⟩
    go_wp2
    go_ret
    exact Ret.mk _ (intv HF.out)
end Go.Proofs.Ytdedbfbkakofgaa

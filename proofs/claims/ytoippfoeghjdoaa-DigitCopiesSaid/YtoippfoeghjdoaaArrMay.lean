/- Contracts of shape.Size, arr.May, arr.Items. -/
import Derived.Test.YtoippfoeghjdoaaArrSame
import Derived.Test.YtoippfoeghjdoaaShapeMay
namespace Go.Proofs.Ytoippfoeghjdoaa
open Go.RowKit
set_option linter.unusedVariables false
set_option linter.unusedSimpArgs false
attribute [local go_sem] alloc_drewN setCell_drewN

/-- What Size tells of a shape's places. -/
def szE (s : List Int) : Int := if mayE s = 0 then pr s else 0
theorem mayE_bd (s : List Int) : 0 ≤ mayE s ∧ mayE s ≤ 17 := by rcases mayE_cases s with h | h | h <;> omega
theorem szE_bd (s : List Int) : 0 ≤ szE s ∧ szE s ≤ 4096 := by
  unfold szE; split
  · rename_i h
    obtain ⟨a, b, c⟩ := mayE_zero h
    have := pr_le s a s.length
    rw [List.take_length] at this
    omega
  · omega
set_option maxHeartbeats 400000 in
theorem size_any {w : World} {ao : Option Addr} {n c : Nat} {s : List Int} (h : Ls w ao n c s) :
    Calls Try.prog 22 #[.slice ao n c] w (RetS w (.tuple #[.int .i64 (szE s), .int .i64 (mayE s)])) := by
  have A := Lib.hid (may_any h)
  obtain ⟨e, HE⟩ : ∃ e, Hid (mayE s = e) := ⟨_, rfl⟩
  rw [HE.out] at A ⊢
  by_cases he : e = 0
  · subst he
    have C := Lib.hid (count_any h HE.out)
    have HZ : Hid (szE s = pr s) := by show _ = _; simp [szE, HE.out]
    rw [HZ.out]
    clear h
    go_enter Try.func22, Try.ntmps22
    go_wp2_with fail
    refine A.out.mono ?_; rintro e w' ⟨rfl, rfl⟩
    go_wp2_with fail
    refine C.out.mono ?_; rintro e w' ⟨rfl, rfl⟩
    go_wp2
    go_ret2
    exact RetS.mk rfl
  · have he' : (e != 0) = true := by simpa using he
    have HZ : Hid (szE s = 0) := by show _ = _; simp [szE, HE.out, he]
    rw [HZ.out]
    clear h
    go_enter Try.func22, Try.ntmps22
    go_wp2_with fail
    refine A.out.mono ?_; rintro e w' ⟨rfl, rfl⟩
    go_wp2
    go_ret2
    exact RetS.mk rfl

/-- What arr.May tells of an array; its items. -/
def amE (s a : List Int) : Int := if mayE s = 0 then if pr s = a.length then 0 else 1 else mayE s
def itE (s a : List Int) : Int := if amE s a = 0 then if s.length = 0 then 1 else s.getD 0 0 else 0
theorem below_one (w : World) (A : Array Value) (t : TypeId) (n : Nat) : Below w.heap.size w ((w.alloc (.cells A t)).drewN n) :=
  below_drewN ((Below.refl _ _).alloc (Nat.le_refl _) _) n
set_option maxHeartbeats 400000 in
theorem arrmay_any {w : World} {A : Ar} (hA : A.Is w) :
    Calls Try.prog 41 #[A.v] w (RetB w (.int .i64 (amE A.s A.a))) := by
  obtain ⟨sa, sn, sc, aa, an, ac, s, a⟩ := A
  obtain ⟨h1, h2⟩ := hA
  simp only [Ar.v] at *
  have hw : Below w.heap.size w (w.alloc (.cells #[.slice sa sn sc, .slice aa an ac] 38)) := below_one _ _ _ 0
  have S := Lib.hid (size_any (h1.below hw (Nat.le_refl _)))
  have HW := Lib.hid hw
  have l2 := h2.len
  obtain ⟨e, HE⟩ : ∃ e, Hid (mayE s = e) := ⟨_, rfl⟩
  obtain ⟨z, HZ⟩ : ∃ z, Hid (szE s = z) := ⟨_, rfl⟩
  rw [HE.out, HZ.out] at S
  obtain ⟨r, HR⟩ : ∃ r, Hid (amE s a = r) := ⟨_, rfl⟩
  rw [HR.out]
  by_cases he : e = 0
  · subst he
    have hz : z = pr s := by rw [← HZ.out]; simp [szE, HE.out]
    by_cases hn : z = an
    · have HF : Hid (r = 0) := by show _ = _; rw [← HR.out]; simp [amE, HE.out, ← hz, hn, l2]
      have hq : (z != (an : Int)) = false := by simpa using hn
      clear h1 h2 hw l2 hz hn
      go_enter Try.func41, Try.ntmps41
      go_wp2_with fail
      refine S.out.mono ?_; rintro e w' ⟨rfl, rfl⟩
      go_wp2
      go_ret
      exact RetB.mk (intv HF.out.symm) HW.out
    · have HF : Hid (r = 1) := by show _ = _; rw [← HR.out]; simp [amE, HE.out, ← hz, hn, l2]
      have hq : (z != (an : Int)) = true := by simpa using hn
      clear h1 h2 hw l2 hz hn
      go_enter Try.func41, Try.ntmps41
      go_wp2_with fail
      refine S.out.mono ?_; rintro e w' ⟨rfl, rfl⟩
      go_wp2
      go_ret
      exact RetB.mk (intv HF.out.symm) HW.out
  · have he' : (e == 0) = false := by simpa using he
    have HF : Hid (r = e) := by show _ = _; rw [← HR.out]; simp [amE, HE.out, he]
    clear h1 h2 hw l2 he
    go_enter Try.func41, Try.ntmps41
    go_wp2_with fail
    refine S.out.mono ?_; rintro e w' ⟨rfl, rfl⟩
    go_wp2
    go_ret
    exact RetB.mk (intv HF.out.symm) HW.out
set_option maxHeartbeats 400000 in
theorem items_any {w : World} {A : Ar} (hA : A.Is w) :
    Calls Try.prog 76 #[A.v] w (RetB w (.int .i64 (itE A.s A.a))) := by
  obtain ⟨sa, sn, sc, aa, an, ac, s, a⟩ := A
  obtain ⟨h1, h2⟩ := hA
  simp only [Ar.v] at *
  have hw : Below w.heap.size w (w.alloc (.cells #[.slice sa sn sc, .slice aa an ac] 38)) := below_one _ _ _ 0
  have h1' := h1.below hw (Nat.le_refl _)
  have M := Lib.hid (arrmay_any (A := ⟨sa, sn, sc, aa, an, ac, s, a⟩) ⟨h1', h2.below hw (Nat.le_refl _)⟩)
  simp only [Ar.v] at M
  have l1 := h1.len
  obtain ⟨e, HE⟩ : ∃ e, Hid (amE s a = e) := ⟨_, rfl⟩
  rw [HE.out] at M
  obtain ⟨r, HR⟩ : ∃ r, Hid (itE s a = r) := ⟨_, rfl⟩
  rw [HR.out]
  obtain ⟨W, HWW⟩ : ∃ W, Hid (w.alloc (.cells #[.slice sa sn sc, .slice aa an ac] 38) = W) := ⟨_, rfl⟩
  have c0 : W.cell? ⟨w.heap.size, 0, none⟩ = some (.slice sa sn sc) := by rw [← HWW.out]; simp [go_sem]
  have c1 : W.cell? ⟨w.heap.size, 1, none⟩ = some (.slice aa an ac) := by rw [← HWW.out]; simp [go_sem]
  have szW : w.heap.size < W.heap.size := by rw [← HWW.out]; simp
  rw [HWW.out] at M hw h1'
  have H1 := Lib.hid h1'
  have HW := Lib.hid hw
  have SZ := Lib.hid szW
  have C0 := Lib.hid c0
  by_cases he : e = 0
  · subst he
    by_cases hs : sn = 0
    · subst hs
      have HF : Hid (r = 1) := by show _ = _; rw [← HR.out]; simp [itE, HE.out, l1]
      clear h1 h2 hw l1 h1' szW c0
      go_enter Try.func76, Try.ntmps76
      go_wp2_with fail
      rw [HWW.out]
      refine M.out.mono ?_; rintro e w' ⟨rfl, hb⟩
      have d0 : w'.cell? ⟨w.heap.size, 0, none⟩ = some (.slice sa 0 sc) := (hb.cell SZ.out).trans C0.out
      have HB : Hid (Below w.heap.size w w') := HW.out.trans (hb.mono (Nat.le_of_lt SZ.out))
      clear hb c1
      go_wp2
      go_ret
      exact RetB.mk (intv HF.out.symm) HB.out
    · have HF : Hid (r = s.getD 0 0) := by show _ = _; rw [← HR.out]; simp [itE, HE.out, show ¬ s.length = 0 by omega]
      have hs' : ((sn : Int) == 0) = false := by simpa using hs
      have hs2 : 0 < sn := by omega
      have hs3 : (sn == 0) = false := by simpa using hs
      have hs4 : (0 : Int) < sn := by omega
      clear h1 h2 hw l1 h1' szW c0 hs
      go_enter Try.func76, Try.ntmps76
      go_wp2_with fail
      rw [HWW.out]
      refine M.out.mono ?_; rintro e w' ⟨rfl, hb⟩
      have d0 : w'.cell? ⟨w.heap.size, 0, none⟩ = some (.slice sa sn sc) := (hb.cell SZ.out).trans C0.out
      obtain ⟨b1, o1, rfl, hc1⟩ := (H1.out.below hb (Nat.le_refl _)).at hs2
      have d1 := hc1 0 hs2
      rw [Nat.add_zero] at d1
      have HB : Hid (Below w.heap.size w w') := HW.out.trans (hb.mono (Nat.le_of_lt SZ.out))
      obtain ⟨x, HX⟩ : ∃ x, Hid (s.getD 0 0 = x) := ⟨_, rfl⟩
      rw [HX.out] at d1 HF
      clear hb c1 hc1
      go_wp2
      go_ret
      exact RetB.mk (intv HF.out.symm) HB.out
  · have he' : (e != 0) = true := by simpa using he
    have HF : Hid (r = 0) := by show _ = _; rw [← HR.out]; simp [itE, HE.out, he]
    clear h1 h2 hw l1 h1' szW c0 he
    go_enter Try.func76, Try.ntmps76
    go_wp2_with fail
    rw [HWW.out]
    refine M.out.mono ?_; rintro e w' ⟨rfl, hb⟩
    have HB : Hid (Below w.heap.size w w') := HW.out.trans (hb.mono (Nat.le_of_lt SZ.out))
    clear hb c1
    go_wp2
    go_ret
    exact RetB.mk (intv HF.out.symm) HB.out
end Go.Proofs.Ytoippfoeghjdoaa

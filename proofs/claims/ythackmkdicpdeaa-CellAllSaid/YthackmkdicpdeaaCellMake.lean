/- Contracts of package cell: count, zeros, listed. -/
import Derived.Test.YthackmkdicpdeaaOwn3
import Derived.Test.YthackmkdicpdeaaConcat
import Derived.Test.YthackmkdicpdeaaCellPlain2
import Derived.Test.YthackmkdicpdeaaMerge
namespace Go.Proofs.Ythackmkdicpdeaa
open Go.RowKit Go.Lib
set_option linter.unusedVariables false
set_option linter.unusedSimpArgs false
attribute [local go_sem] alloc_drewN setCell_drewN
theorem made_box {w w' w2 w3 : World} {ao1 ao2 : Option Addr} {n1 c1 n2 c2 b : Nat} {s a : List Int} (hW : Below w.heap.size w w') (hb1 : w.heap.size ≤ b) (hb2 : b < w'.heap.size) (hB1 : Below w'.heap.size w' w2)
    (hO1 : w2.ownsRow w'.heap.size 3 1 (.slice ao1 n1 c1) n1 (s.map (Value.int .i64))) (hB2 : Below w2.heap.size w2 w3)
    (hO2 : w3.ownsRow w2.heap.size 2 1 (.slice ao2 n2 c2) n2 (a.map (Value.int .i64))) (L1 : Ls w2 ao1 n1 c1 s) (L2 : Ls w3 ao2 n2 c2 a) (err : Int) (u v : Value) :
    MadeE w s a err (.returned (.tuple #[.agg #[.slice ao1 n1 c1, .slice ao2 n2 c2], .int .i64 err])) ((w3.setCell ⟨b, 0, none⟩ u).setCell ⟨b, 1, none⟩ v) := by
  have hs1 := hB1.size
  have hs0 := hW.size
  have hs2 := hB2.size
  have O1 := ownsRow_setCell_below (ownsRow_setCell_below (own_below hO1 hB2 (Nat.le_refl _)) (a := ⟨b, 0, none⟩) (by dsimp only; omega) u) (a := ⟨b, 1, none⟩) (by dsimp only; omega) v
  have O2 := ownsRow_setCell_below (ownsRow_setCell_below hO2 (a := ⟨b, 0, none⟩) (by dsimp only; omega) u) (a := ⟨b, 1, none⟩) (by dsimp only; omega) v
  refine made_mk err (((hW.trans ((hB1.mono hs0).trans (hB2.mono (by omega)))).setCell (by dsimp only; omega) _).setCell (by dsimp only; omega) _) (own_mono O1 hs0) (own_mono O2 (by omega)) ?_ L1.big L2.big L1.rng L2.rng
  intro g h1 h2
  have q1 := own_block hO1 h1
  have q2 := own_block hO2 h2
  omega
theorem count4_any {w : World} {ao : Option Addr} {n c : Nat} {s : List Int} (h : Ls w ao n c s) (hm : mayE s = 0) :
    Calls Try.prog 62 #[.slice ao n c] w (RetS w (.int .i64 (pr s))) := by
  have C := Lib.hid (size_any h)
  have e : szE s = pr s := by unfold szE; rw [if_pos hm]
  rw [e] at C
  clear h e hm
  go_enter Try.func62, Try.ntmps62
  go_wp2_with fail
  refine C.out.mono ?_; rintro e' w' ⟨rfl, hw⟩
  have hw' := hw.symm
  subst hw'
  go_wp2
  go_ret
  exact RetS.mk rfl
set_option maxHeartbeats 800000 in
theorem zeros_any {w : World} {ao : Option Addr} {n c : Nat} {s : List Int} (h : Ls w ao n c s) (hm : mayE s = 0) :
    Calls Try.prog 61 #[.slice ao n c] w (MadeA w s (List.replicate (pr s).toNat 0)) := by
  obtain ⟨W, HWW⟩ : ∃ W, Hid (w.alloc (.cells #[.slice none 0 0, .slice none 0 0] 45) = W) := ⟨_, rfl⟩
  have hw : Below w.heap.size w W := by rw [← HWW.out]; exact (Below.refl _ _).alloc (Nat.le_refl _) _
  have hsz : W.heap.size = w.heap.size + 1 := by rw [← HWW.out]; simp
  have B0 : BoxA W w.heap.size (.slice none 0 0) (.slice none 0 0) := by
    rw [← HWW.out]
    exact ⟨by simp [go_sem], by simp [go_sem], by simp [go_sem], by simp [go_sem], by simp⟩
  have HLs := Lib.hid (h.below hw (Nat.le_refl _))
  have C := Lib.hid (clone_any HLs.out)
  obtain ⟨N, hN⟩ : ∃ N : Nat, pr s = N := ⟨(pr s).toNat, by have := pr_nonneg hm; omega⟩
  have hNb : N ≤ 4096 := by have := pr_nonneg hm; omega
  have CN := Lib.hid (fun w2 (hb : Below W.heap.size W w2) => count4_any (HLs.out.below hb (Nat.le_refl _)) hm)
  rw [hN] at CN ⊢
  rw [Int.toNat_natCast]
  have hmk := fun w => mk_int64 N (by omega) w
  have HW := Lib.hid hw
  have SZ := Lib.hid hsz
  have HB0 := Lib.hid B0
  clear h hw hsz B0 hN hm
  go_enter Try.func61, Try.ntmps61
  go_wp2_with fail
  rw [HWW.out]
  refine C.out.mono ?_; rintro e w2 ⟨ao2, c2, rfl, hL2, hO2, hB2⟩
  have CN2 := Lib.hid (CN.out w2 hB2)
  have HL2 := Lib.hid hL2
  have HO2 := Lib.hid hO2
  have HB2 := Lib.hid hB2
  clear hL2 hO2 hB2
  go_wp2_with fail
  refine CN2.out.mono ?_; rintro e w3 ⟨rfl, hw⟩
  have hw' := hw.symm
  subst hw'
  obtain ⟨k0, k1, k2, k3, k4⟩ := HB0.out.below (HB2.out.trans ((Below.refl _ _).alloc HB2.out.size (.cells (Array.replicate N (.int .i64 0)) 2))) HB0.out.lt
  have HE : Hid (∀ u v, MadeA w s (List.replicate N 0) (.returned (.agg #[.slice ao2 n c2, .slice (some ⟨w2.heap.size, 0, none⟩) N N])) (((w2.alloc (.cells (Array.replicate N (.int .i64 0)) 2)).setCell ⟨w.heap.size, 0, none⟩ u).setCell ⟨w.heap.size, 1, none⟩ v)) := fun u v => by
    have hz := own_zeros w2 2 N w2.heap.size (by omega) (Nat.le_refl _)
    exact madeE_A (err := 0) (made_box HW.out (Nat.le_refl _) (by have := SZ.out; omega) HB2.out HO2.out ((Below.refl _ _).alloc (Nat.le_refl _) _) hz HL2.out (ls_of_own hz (by omega) (fun i => by simp only [List.getD, List.getElem?_replicate]; split <;> simp)) 0 u v)
  go_wp2
  exact bodyPost_ret (v := .agg #[.slice ao2 n c2, .slice (some ⟨w2.heap.size, 0, none⟩) N N]) (by simp [results, Try.results61, go_sem, *]) rfl (HE.out _ _)
/-- An array's lengths, a scalar's as those of a list. -/
def lsdL (s : List Int) : List Int := if s.length = 0 then [1] else s
set_option maxHeartbeats 800000 in
theorem listed_any {w : World} {A : Ar} (hA : A.Is w) : Calls Try.prog 65 #[A.v] w (MadeL w (lsdL A.s)) := by
  obtain ⟨sa, sn, sc, aa, an, ac, s, a⟩ := A
  have hS := hA.shp
  simp only [Ar.v] at hS ⊢
  have hl := hS.len
  obtain ⟨W, HWW⟩ : ∃ W, Hid (w.alloc (.cells #[.slice sa sn sc, .slice aa an ac] 45) = W) := ⟨_, rfl⟩
  have hw : Below w.heap.size w W := by rw [← HWW.out]; exact (Below.refl _ _).alloc (Nat.le_refl _) _
  have d0 : W.cell? ⟨w.heap.size, 0, none⟩ = some (.slice sa sn sc) := by rw [← HWW.out]; simp [go_sem]
  have C := Lib.hid (clone_any (hS.below hw (Nat.le_refl _)))
  have HW := Lib.hid hw
  by_cases h0 : sn = 0
  · subst h0
    have e : lsdL s = [1] := by unfold lsdL; rw [if_pos hl]
    rw [e]
    have HF : Hid (MadeL w [1] (.returned (.slice (some ⟨W.heap.size, 0, none⟩) 1 1)) (W.alloc (.cells #[.int .i64 1] 3))) := by
      have h := World.ownsRow_lit (base := W.heap.size) (e := 3) (size := 1) W #[.int .i64 1] 1 (Nat.le_refl _) (by simp [maxLen]) rfl
      have h' : World.ownsRow (W.alloc (.cells #[.int .i64 1] 3)) W.heap.size 3 1 (.slice (some ⟨W.heap.size, 0, none⟩) 1 1) 1 ([(1 : Int)].map (Value.int .i64)) := by simpa using h
      exact ⟨_, _, _, rfl, ls_of_own h' (show 1 * 8 ≤ 140737488351232 by omega) (rng_one (by omega)), own_mono h' HW.out.size, HW.out.trans ((Below.refl _ _).alloc HW.out.size _)⟩
    have hsz : W.heap.size = w.heap.size + 1 := by rw [← HWW.out]; simp
    rw [hsz] at HF
    clear hA hS hl hw e hsz
    go_enter Try.func65, Try.ntmps65
    go_wp2_with fail
    rw [HWW.out]
    go_wp2
    go_ret
    exact HF.out
  · have e : lsdL s = s := by unfold lsdL; rw [if_neg (by omega)]
    rw [e]
    have q0 : (sn == 0) = false := by simpa using h0
    have q1 : ((sn : Int) == 0) = false := by simp; omega
    clear hA hS hl hw e
    go_enter Try.func65, Try.ntmps65
    go_wp2_with fail
    rw [HWW.out]
    go_wp2_with fail
    refine C.out.mono ?_; rintro e w2 ⟨ao2, c2, rfl, hL2, hO2, hB2⟩
    have HF : Hid (MadeL w s (.returned (.slice ao2 sn c2)) w2) := ⟨_, _, _, rfl, hL2, own_mono hO2 HW.out.size, HW.out.trans (hB2.mono HW.out.size)⟩
    clear hL2 hO2 hB2
    go_wp2
    go_ret
    exact HF.out
end Go.Proofs.Ythackmkdicpdeaa

/- Contract of the document's Fill (abacusref3). -/
import Derived.Test.YtdedbfbkakofgaaArrAllM28
namespace Go.Proofs.Ytdedbfbkakofgaa
open Go.RowKit Go.Lib
set_option linter.unusedVariables false
set_option linter.unusedSimpArgs false
attribute [local go_sem] alloc_drewN setCell_drewN

theorem rep_rng {x : Int} (hx : -9223372036854775808 ≤ x ∧ x ≤ 9223372036854775807) (k : Nat) : ∀ i, -9223372036854775808 ≤ (List.replicate k x).getD i 0 ∧ (List.replicate k x).getD i 0 ≤ 9223372036854775807 := by
  intro i
  by_cases hi : i < k
  · simp [List.getD, List.getElem?_replicate, hi]; exact hx
  · simp [List.getD, List.getElem?_replicate, hi]
set_option maxHeartbeats 400000 in
theorem rfill_bad {w : World} {ao : Option Addr} {n c : Nat} {s : List Int} (h : Ls w ao n c s) (x : Int) (hm : mayE s ≠ 0) :
    Calls Try.prog 70 #[.slice ao n c, .int .i64 x] w (MadeE w [] [] (mayE s)) := by
  obtain ⟨W, HW⟩ : ∃ z, Hid (w.alloc (.cells #[.slice none 0 0, .slice none 0 0] 55) = z) := ⟨_, rfl⟩
  have hw : Below w.heap.size w W := by rw [← HW.out]; exact abal _ _
  have C := Lib.hid (rsz_any (h.below hw (Nat.le_refl _)))
  obtain ⟨z, HZ⟩ : ∃ z, Hid (szE s = z) := ⟨_, rfl⟩
  obtain ⟨e, HE⟩ : ∃ e, Hid (mayE s = e) := ⟨_, rfl⟩
  have hm' : (e != 0) = true := by rw [← HE.out]; simpa using hm
  rw [HZ.out, HE.out] at C
  rw [HE.out]
  have B1 : BoxA W w.heap.size (.slice none 0 0) (.slice none 0 0) := by rw [← HW.out]; exact BoxA.new _ _ _ _
  obtain ⟨k0, k1, k2, k3, k4⟩ := B1
  have HWB := Lib.hid hw
  have HF : Hid (MadeE w [] [] e (.returned (.tuple #[.agg #[.slice none 0 0, .slice none 0 0], .int .i64 e])) ((W.setCell ⟨w.heap.size, 0, none⟩ (.slice none 0 0)).setCell ⟨w.heap.size, 1, none⟩ (.slice none 0 0))) :=
    made_nil e ((hw.setCell (Nat.le_refl _) _).setCell (Nat.le_refl _) _)
  clear h hw hm
  go_enter Try.func70, Try.ntmps70
  go_wp2_with fail
  rw [HW.out]
  refine C.out.mono ?_; rintro e' w' ⟨rfl, rfl⟩
  go_wp2_with fail
  exact bodyPost_ret (v := .tuple #[.agg #[.slice none 0 0, .slice none 0 0], .int .i64 e]) (by simp [results, Try.results70, go_sem, *]) rfl HF.out
set_option maxRecDepth 100000 in
set_option maxHeartbeats 1600000 in
theorem rfill_ok {w : World} {ao : Option Addr} {n c : Nat} {s : List Int} (h : Ls w ao n c s) (x : Int) (hx : -9223372036854775808 ≤ x ∧ x ≤ 9223372036854775807) (hm : mayE s = 0) :
    Calls Try.prog 70 #[.slice ao n c, .int .i64 x] w (MadeE w s (List.replicate (pr s).toNat x) 0) := by
  obtain ⟨W, HW⟩ : ∃ z, Hid (w.alloc (.cells #[.slice none 0 0, .slice none 0 0] 55) = z) := ⟨_, rfl⟩
  have hw : Below w.heap.size w W := by rw [← HW.out]; exact abal _ _
  have hsz : W.heap.size = w.heap.size + 1 := by rw [← HW.out]; simp
  have C := Lib.hid (rsz_any (h.below hw (Nat.le_refl _)))
  obtain ⟨N, hN⟩ : ∃ N : Nat, szE s = N := by have := szE_bd s; exact ⟨(szE s).toNat, by omega⟩
  have hN2 : (pr s).toNat = N := by have h := hN; unfold szE at h; rw [if_pos hm] at h; omega
  have hNb : N ≤ 4096 := by have := szE_bd s; omega
  rw [hN, hm] at C
  rw [hN2]
  have B1 : BoxA W w.heap.size (.slice none 0 0) (.slice none 0 0) := by rw [← HW.out]; exact BoxA.new _ _ _ _
  have Z1 := Lib.hid B1
  obtain ⟨i0, hi, hz0, hz1, hz2⟩ := info_parts (P := Try.prog) (e := 3) (z := .int .i64 0) (size := 1) (bytes := 8) (by kernel_rfl)
  have HLS := Lib.hid (h.below hw (Nat.le_refl _))
  have hbig := h.big
  have hbd : (0 + n) * 8 ≤ 140737488355328 := by omega
  have HO0 : Hid (W.ownsRow W.heap.size 3 1 (.slice none 0 0) 0 (([] : List Int).map (Value.int .i64))) := World.ownsRow_nil _ _ _ _
  have HWB := Lib.hid hw
  have SZ := Lib.hid hsz
  have HSR := Lib.hid h.rng
  obtain ⟨hx1, hx2⟩ := hx
  have HX : Hid (-9223372036854775808 ≤ x ∧ x ≤ 9223372036854775807) := ⟨hx1, hx2⟩
  clear h hw hm hN hN2 B1 hsz
  go_enter Try.func70, Try.ntmps70
  go_wp2_with fail
  rw [HW.out]
  refine C.out.mono ?_; rintro e' w2 ⟨rfl, rfl⟩
  go_wp2_with (at_builtin; refine wpList_append_loc _ rfl _ _ 25 rfl w2.heap.size 3 i0 Try.underlying25 hi hz0 hz1 hz2 _ 0 [] rfl HO0.out rfl HLS.out hbd (Nat.le_refl _) ?_)
  intro bo d w5 hO5 hG5 hl5 hn5
  have HB5 : Hid (Below w2.heap.size w2 w5) := (Below.refl _ _).grown hG5 (Nat.le_refl _) (fun k hk => by simp [Value.ownBlock] at hk)
  have hO6 : w5.ownsRow w2.heap.size 3 1 (.slice bo n d) n (s.map (Value.int .i64)) := by simpa using hO5
  have HO5 := Lib.hid hO6
  clear hO5 hG5 hl5 hn5 hO6
  obtain ⟨W6, HW6⟩ : ∃ z, Hid (w5.alloc (.cells #[.slice bo n d, .slice none 0 0] 55) = z) := ⟨_, rfl⟩
  have hwi : WantI w5 W6 w5.heap.size (.slice bo n d) none 0 0 [] := by rw [← HW6.out]; exact WantI.new _ _
  have HWI := Lib.hid hwi
  obtain ⟨k0, k1, k2, k3, k4⟩ := hwi.box
  clear hwi
  go_wp2_with fail
  rw [HW6.out]
  go_loopw [9] (fun i wr => ∃ (k : Nat) (ao : Option Addr) (c : Nat), k ≤ N ∧ i = .int .i64 k ∧ Hid (WantI w5 wr w5.heap.size (.slice bo n d) ao k c (List.replicate k x))) (fun i _ => N - (RowKit.intOf i).toNat)
  case atStart => exact ⟨0, none, 0, Nat.zero_le _, rfl, HWI⟩
  case round =>
    obtain ⟨k, ao, c, hk, rfl, HR⟩ := hrel
    clear k0 k1 k2 k3 k4
    obtain ⟨k0, k1, k2, k3, k4⟩ := HR.out.box
    have HVR := Lib.hid (abvia HB5.out HR.out.below)
    try clear z0 z1 z2 z3 z4
    obtain ⟨z0, z1, z2, z3, z4⟩ := Z1.out.via HVR.out
    by_cases hlt : k < N
    · have hlt' : (k : Int) < N := by omega
      obtain ⟨j0, hj, hy0, hy1, hy2⟩ := info_parts (P := Try.prog) (e := 2) (z := .int .i64 0) (size := 1) (bytes := 8) (by kernel_rfl)
      have HO := Lib.hid (own_below HR.out.own (abal wr (.cells #[.int .i64 x] 2)) (Nat.le_refl _))
      have HLZ := Lib.hid (ls_one wr 2 x HX.out)
      have hsz : (k + 1) * 8 ≤ 140737488355328 := by omega
      have hbx : w5.heap.size + 1 ≤ wr.heap.size := HR.out.box.lt
      have hbs : w5.heap.size + 1 ≤ (wr.alloc (.cells #[.int .i64 x] 2)).heap.size := by simp; omega
      go_wp2_with (at_builtin; refine wpList_append_big _ rfl _ _ 50 rfl (w5.heap.size + 1) 2 j0 Try.underlying50 hj hy0 hy1 hy2 _ k (List.replicate k x) rfl HO.out rfl HLZ.out hsz hbs ?_)
      intro v' w10 hown hgrow
      obtain ⟨ao', c', rfl⟩ := own_form hown
      have hB10 : Below (w5.heap.size + 1) wr w10 := ((abal wr _).mono hbx).grown hgrow hbs (by intro g hg; exact (own_block HO.out hg).1)
      have HG : Hid (WantI w5 (w10.setCell ⟨w5.heap.size, 1, none⟩ (.slice ao' (k + 1) c')) w5.heap.size (.slice bo n d) ao' (k + 1) c' (List.replicate (k + 1) x)) := by
        refine HR.out.grow (Below.refl _ _) hB10 ?_
        rw [List.replicate_succ']
        simpa using hown
      obtain ⟨q0, q1, q2, q3, q4⟩ := HR.out.box.below hB10 (Nat.lt_succ_self _)
      clear hown hgrow hsz hbs hbx hB10 k0 k1 k2 k3 k4 z0 z1 z2 z3 z4
      go_wp2
      go_roundw
      case rel => exact ⟨k + 1, ao', c', by omega, by go_num, HG⟩
      case measure => simp [RowKit.intOf]; omega
    · obtain rfl : k = N := by omega
      have hge : (k : Int) ≤ k := Int.le_refl _
      have HF : Hid (MadeE w s (List.replicate k x) 0 (.returned (.tuple #[.agg #[.slice bo n d, .slice ao k c], .int .i64 0])) ((wr.setCell ⟨w.heap.size, 0, none⟩ (.slice bo n d)).setCell ⟨w.heap.size, 1, none⟩ (.slice ao k c))) := by
        have hs5 := HB5.out.size
        refine made_two 0 HWB.out (Nat.le_refl _) (by have := SZ.out; omega) (abvia HB5.out HR.out.below) (own_below HO5.out HR.out.below (Nat.le_refl _)) (B2 := w5.heap.size + 1) (by omega) HR.out.own (fun g hg => by have := (own_block HO5.out hg).2; omega) (by omega) (by omega) HSR.out (rep_rng HX.out k) _ _
      go_wp2_with fail
      exact bodyPost_ret (v := .tuple #[.agg #[.slice bo n d, .slice ao k c], .int .i64 0]) (by simp [results, Try.results70, go_sem, *]) rfl HF.out
end Go.Proofs.Ytdedbfbkakofgaa

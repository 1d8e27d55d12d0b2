/- What every statement of the layer asks ahead: begun. -/
import Derived.Test.YtdedbfbkakofgaaAtomDyad
import Derived.Test.YtdedbfbkakofgaaArrBegun
import Derived.Deep.RegionHeld3
namespace Go.Proofs.Ytdedbfbkakofgaa
open Go.RowKit Go.Lib
set_option linter.unusedVariables false
set_option linter.unusedSimpArgs false
attribute [local go_sem] alloc_drewN setCell_drewN

/-- The call hands back an array of that shape and these atoms. -/
def LstA (w : World) (s a : List Int) (e : Ending) (w' : World) : Prop :=
  ∃ B : Ar, e = .returned B.v ∧ B.Is w' ∧ B.s = s ∧ B.a = a ∧ Below w.heap.size w w'
set_option maxHeartbeats 800000 in
theorem list5_any {w : World} {ao : Option Addr} {n c : Nat} {zs : List Int} (h : Ls w ao n c zs) :
    Calls Try.prog 78 #[.slice ao n c] w (LstA w [(n : Int)] zs) := by
  have HE : Hid (LstA w [(n : Int)] zs (.returned (.agg #[.slice (some ⟨w.heap.size + 1, 0, none⟩) 1 1, .slice ao n c])) ((w.alloc (.cells #[.slice (some ⟨w.heap.size + 1, 0, none⟩) 1 1, .slice ao n c] 55)).alloc (.cells #[.int .i64 n] 3))) := by
    have hO := World.ownsRow_lit (base := w.heap.size + 1) (e := 3) (size := 1) (w.alloc (.cells #[.slice (some ⟨w.heap.size + 1, 0, none⟩) 1 1, .slice ao n c] 55)) #[.int .i64 n] 1 (by simp) (by simp [maxLen]) rfl
    have hO' : World.ownsRow ((w.alloc (.cells #[.slice (some ⟨w.heap.size + 1, 0, none⟩) 1 1, .slice ao n c] 55)).alloc (.cells #[.int .i64 n] 3)) (w.heap.size + 1) 3 1 (.slice (some ⟨w.heap.size + 1, 0, none⟩) 1 1) 1 ([(n : Int)].map (Value.int .i64)) := by simpa using hO
    have hbg := h.big
    have hb : Below w.heap.size w ((w.alloc (.cells #[.slice (some ⟨w.heap.size + 1, 0, none⟩) 1 1, .slice ao n c] 55)).alloc (.cells #[.int .i64 n] 3)) := below_box2 _ _ _ _ _
    exact ⟨⟨some ⟨w.heap.size + 1, 0, none⟩, 1, 1, ao, n, c, [(n : Int)], zs⟩, rfl, ⟨ls_of_own hO' (show 1 * 8 ≤ 140737488351232 by omega) (rng_one (by omega)), h.via hb⟩, rfl, rfl, hb⟩
  clear h
  go_enter Try.func78, Try.ntmps78
  go_wp2
  exact bodyPost_ret (v := .agg #[.slice (some ⟨w.heap.size + 1, 0, none⟩) 1 1, .slice ao n c]) (by simp [results, Try.results78, go_sem, *]) rfl HE.out
theorem lit_any (w : World) (zs : List Int) (T : TypeId) (vs : Array Value) (hv : vs = (zs.map (Value.int .i64)).toArray) (h : (zs.length < 1000 && zs.all fun x => decide (-1000 ≤ x) && decide (x ≤ 1000)) = true) (m : Nat) (hm : m = zs.length) :
    Ls (w.alloc (.cells vs T)) (some ⟨w.heap.size, 0, none⟩) m m zs := by
  rw [Bool.and_eq_true, decide_eq_true_eq, List.all_eq_true] at h
  subst hv hm
  refine ls_alloc w zs T (by omega) fun i => ?_
  rcases Nat.lt_or_ge i zs.length with hi | hi
  · have := h.2 (zs.getD i 0) (by rw [List.getD_eq_getElem?_getD, List.getElem?_eq_getElem hi]; exact List.getElem_mem hi)
    simp only [Bool.and_eq_true, decide_eq_true_eq] at this
    omega
  · rw [List.getD_eq_getElem?_getD, List.getElem?_eq_none hi]; simp
theorem lit2 (w : World) (T : TypeId) (x y : Int) (h : ([x, y].length < 1000 && [x, y].all fun x => decide (-1000 ≤ x) && decide (x ≤ 1000)) = true) : Ls (w.alloc (.cells #[.int .i64 x, .int .i64 y] T)) (some ⟨w.heap.size, 0, none⟩) 2 2 [x, y] := lit_any w [x, y] T _ rfl h 2 rfl
theorem lit1 (w : World) (T : TypeId) (x : Int) (h : ([x].length < 1000 && [x].all fun x => decide (-1000 ≤ x) && decide (x ≤ 1000)) = true) : Ls (w.alloc (.cells #[.int .i64 x] T)) (some ⟨w.heap.size, 0, none⟩) 1 1 [x] := lit_any w [x] T _ rfl h 1 rfl
theorem lit3 (w : World) (T : TypeId) (x y z : Int) (h : ([x, y, z].length < 1000 && [x, y, z].all fun x => decide (-1000 ≤ x) && decide (x ≤ 1000)) = true) : Ls (w.alloc (.cells #[.int .i64 x, .int .i64 y, .int .i64 z] T)) (some ⟨w.heap.size, 0, none⟩) 3 3 [x, y, z] := lit_any w [x, y, z] T _ rfl h 3 rfl
set_option maxRecDepth 100000 in
set_option maxHeartbeats 1600000 in
theorem begun5_any (w : World) : Calls Try.prog 30 #[] w (RetB w (.bool true)) := by
  have L1 := Lib.hid (fun w1 => list5_any (lit2 w1 2 1 2 (by decide)))
  have L3 := Lib.hid (fun w1 => list5_any (lit3 w1 2 1 2 3 (by decide)))
  have C1 : Hid (∀ (w1 : World) (A : Ar), A.Is w1 → A.s = [2] → A.a = [1, 2] → Calls Try.prog 77 #[.int .i64 2, A.v] w1 (MadeE w1 [2] [-1, -2] 0)) := by
    intro w1 A hA hs ha
    have h := amonad_any hA 2
    rw [hs, ha, show amoS 2 [2] [1, 2] = [2] by decide, show amoA 2 [2] [1, 2] = [-1, -2] by decide, show amoE 2 [2] [1, 2] = 0 by decide] at h
    exact h
  have C2 : Hid (∀ (w1 : World) (A B : Ar), A.Is w1 → B.Is w1 → A.s = [] → A.a = [10] → B.s = [2] → B.a = [1, 2] → Calls Try.prog 38 #[.int .i64 1, A.v, B.v] w1 (MadeE w1 [2] [11, 12] 0)) := by
    intro w1 A B hA hB hs ha ht hb
    have h := adyad_any hA hB 1
    rw [hs, ha, ht, hb, show adyS 1 [] [10] [2] [1, 2] = [2] by decide, show adyA 1 [] [10] [2] [1, 2] = [11, 12] by decide, show adyE 1 [] [10] [2] [1, 2] = 0 by decide] at h
    exact h
  have C3 : Hid (∀ (w1 : World) (A B : Ar), A.Is w1 → B.Is w1 → A.s = [3] → A.a = [1, 2, 3] → B.s = [2] → B.a = [1, 2] → Calls Try.prog 38 #[.int .i64 3, A.v, B.v] w1 (MadeE w1 [] [] 11)) := by
    intro w1 A B hA hB hs ha ht hb
    have h := adyad_any hA hB 3
    rw [hs, ha, ht, hb, show adyS 3 [3] [1, 2, 3] [2] [1, 2] = [] by decide, show adyA 3 [3] [1, 2, 3] [2] [1, 2] = [] by decide, show adyE 3 [3] [1, 2, 3] [2] [1, 2] = 11 by decide] at h
    exact h
  have H2 := Lib.hid (fun w1 => has_any 4 2 w1)
  have H1 := Lib.hid (fun w1 => has_any 4 1 w1)
  rw [show hasV 4 2 = true by decide] at H2
  rw [show hasV 4 1 = false by decide] at H1
  go_enter Try.func30, Try.ntmps30
  go_wp2_with fail
  refine (L1.out w).mono ?_; rintro e w2 ⟨⟨sa1, sn1, sc1, aa1, an1, ac1, s1, a1⟩, rfl, hI1, hs1, ha1, hb2⟩
  have HB2 := Lib.hid (abvia (abal w _) hb2)
  have C1' := Lib.hid (C1.out w2 _ hI1 hs1 ha1)
  simp only [Ar.v] at *
  clear hI1 hs1 ha1 hb2
  go_wp2_with fail
  refine C1'.out.mono ?_; rintro e w3 ⟨⟨sa3, sn3, sc3, aa3, an3, ac3, s3, a3⟩, rfl, hI3, hs3, ha3, -, hb3⟩
  obtain ⟨W3, HW3⟩ : ∃ W3, Hid (w3.alloc (.cells #[.slice sa3 sn3 sc3, .slice aa3 an3 ac3] 55) = W3) := ⟨_, rfl⟩
  have hal : Below w3.heap.size w3 W3 := by rw [← HW3.out]; exact abal _ _
  have X3 : Hid (BoxA W3 w3.heap.size (.slice sa3 sn3 sc3) (.slice aa3 an3 ac3)) := by rw [← HW3.out]; exact BoxA.new _ _ _ _
  have I3 := Lib.hid (hI3.via hal)
  have HB3 := Lib.hid (abvia HB2.out (abvia hb3 hal))
  have S3 := Lib.hid hs3
  have A3 := Lib.hid ha3
  simp only [Ar.v] at *
  clear hI3 hs3 ha3 hb3 hal
  have L1a := Lib.hid (L1.out ((w3.alloc (.cells #[.slice sa3 sn3 sc3, .slice aa3 an3 ac3] 55)).alloc (.cells #[.int .i64 10] 2)))
  simp only [World.size_alloc] at L1a
  have l10 : Ls ((w3.alloc (.cells #[.slice sa3 sn3 sc3, .slice aa3 an3 ac3] 55)).alloc (.cells #[.int .i64 10] 2)) (some ⟨w3.heap.size + 1, 0, none⟩) 1 1 [10] := by simpa using lit1 (w3.alloc (.cells #[.slice sa3 sn3 sc3, .slice aa3 an3 ac3] 55)) 2 10 (by decide)
  have HL10 : Hid (∀ o, Ls (((w3.alloc (.cells #[.slice sa3 sn3 sc3, .slice aa3 an3 ac3] 55)).alloc (.cells #[.int .i64 10] 2)).alloc o) (some ⟨w3.heap.size + 1, 0, none⟩) 1 1 [10]) := fun o => l10.via (abal _ _)
  have HV4 : Hid (∀ o, Below W3.heap.size W3 (((w3.alloc (.cells #[.slice sa3 sn3 sc3, .slice aa3 an3 ac3] 55)).alloc (.cells #[.int .i64 10] 2)).alloc o)) := by
    intro o; rw [HW3.out]; exact abvia (abal _ _) (abal _ _)
  clear l10
  go_wp2_with fail
  refine L1a.out.mono ?_; rintro e w6 ⟨⟨sa6, sn6, sc6, aa6, an6, ac6, s6, a6⟩, rfl, hI6, hs6, ha6, hb6⟩
  have C2' := Lib.hid (C2.out w6 ⟨none, 0, 0, some ⟨w3.heap.size + 1, 0, none⟩, 1, 1, [], [10]⟩ _ ⟨Ls.zero _ _ (Nat.zero_le _), (HL10.out _).via hb6⟩ hI6 rfl rfl hs6 ha6)
  have HB6 := Lib.hid (abvia HB3.out (abvia (HV4.out _) hb6))
  have X6 := Lib.hid (X3.out.via (abvia (HV4.out _) hb6))
  have I6 := Lib.hid (I3.out.via (abvia (HV4.out _) hb6))
  simp only [Ar.v] at *
  clear hI6 hs6 ha6 hb6
  go_wp2_with fail
  refine C2'.out.mono ?_; rintro e w7 ⟨⟨sa7, sn7, sc7, aa7, an7, ac7, s7, a7⟩, rfl, hI7, hs7, ha7, -, hb7⟩
  have S7 := Lib.hid hs7
  have A7 := Lib.hid ha7
  have HB7 := Lib.hid (abvia HB6.out hb7)
  have X7 := Lib.hid (X6.out.via hb7)
  have I7 := Lib.hid (I6.out.via hb7)
  have J7 := Lib.hid hI7
  simp only [Ar.v] at *
  clear hI7 hs7 ha7 hb7
  have L3a := Lib.hid (L3.out (w7.alloc (.cells #[.slice sa7 sn7 sc7, .slice aa7 an7 ac7] 55)))
  simp only [World.size_alloc] at L3a
  go_wp2_with fail
  refine L3a.out.mono ?_; rintro e w8 ⟨⟨sa8, sn8, sc8, aa8, an8, ac8, s8, a8⟩, rfl, hI8, hs8, ha8, hb8⟩
  have hv := abvia (abvia (abal w7 (.cells #[.slice sa7 sn7 sc7, .slice aa7 an7 ac7] 55)) (abal _ _)) hb8
  have HB8 := Lib.hid (abvia HB7.out hv)
  have X8 := Lib.hid (X7.out.via hv)
  have I8 := Lib.hid (I7.out.via hv)
  have J8 := Lib.hid (J7.out.via hv)
  have Y8 : Hid (BoxA w8 w7.heap.size (.slice sa7 sn7 sc7) (.slice aa7 an7 ac7)) := ((BoxA.new w7 55 _ _).via (abal _ _)).via hb8
  have K8 := Lib.hid hI8
  have S8 := Lib.hid hs8
  have A8 := Lib.hid ha8
  simp only [Ar.v] at *
  clear hI8 hs8 ha8 hb8 hv
  go_wp2_with fail
  refine (L1.out w8).mono ?_; rintro e w9 ⟨⟨sa9, sn9, sc9, aa9, an9, ac9, s9, a9⟩, rfl, hI9, hs9, ha9, hb9⟩
  have hv := abvia (abal w8 _) hb9
  have HB9 := Lib.hid (abvia HB8.out hv)
  have X9 := Lib.hid (X8.out.via hv)
  have I9 := Lib.hid (I8.out.via hv)
  have J9 := Lib.hid (J8.out.via hv)
  have Y9 := Lib.hid (Y8.out.via hv)
  have C3' := Lib.hid (C3.out w9 _ _ (K8.out.via hv) hI9 S8.out A8.out hs9 ha9)
  simp only [Ar.v] at *
  clear hI9 hs9 ha9 hb9 hv
  go_wp2_with fail
  refine C3'.out.mono ?_; rintro e w10 ⟨⟨sa10, sn10, sc10, aa10, an10, ac10, s10, a10⟩, rfl, hI10, -, -, -, hb10⟩
  obtain ⟨W10, HW10⟩ : ∃ W10, Hid (w10.alloc (.cells #[.slice sa10 sn10 sc10, .slice aa10 an10 ac10] 55) = W10) := ⟨_, rfl⟩
  have hv : Below w9.heap.size w9 W10 := by rw [← HW10.out]; exact abvia hb10 (abal _ _)
  have HB10 := Lib.hid (abvia HB9.out hv)
  have X10 := Lib.hid (X9.out.via hv)
  have I10 := Lib.hid (I9.out.via hv)
  have J10 := Lib.hid (J9.out.via hv)
  have Y10 := Lib.hid (Y9.out.via hv)
  simp only [Ar.v] at *
  clear hb10 hv hI10
  obtain ⟨x0, x1, -, -, -⟩ := X10.out
  obtain ⟨y0, y1, -, -, -⟩ := Y10.out
  clear HV4 HL10 L1a L3a L3 C1 C2 C3 C1' C2' C3'
  have LA : Hid (Calls Try.prog 78 #[.slice (some ⟨W10.heap.size, 0, none⟩) 2 2] (W10.alloc (.cells #[.int .i64 (-1), .int .i64 (-2)] 2)).drew (LstA (W10.alloc (.cells #[.int .i64 (-1), .int .i64 (-2)] 2)).drew [2] [-1, -2])) :=
    list5_any ((lit2 W10 2 (-1) (-2) (by decide)).drew 1)
  have LB : Hid (∀ W1 : World, Calls Try.prog 78 #[.slice (some ⟨W1.heap.size, 0, none⟩) 2 2] (W1.alloc (.cells #[.int .i64 11, .int .i64 12] 2)) (LstA (W1.alloc (.cells #[.int .i64 11, .int .i64 12] 2)) [2] [11, 12])) :=
    fun W1 => list5_any (lit2 W1 2 11 12 (by decide))
  have EQ : Hid (∀ (W1 : World) (A B : Ar), A.Is W1 → B.Is W1 → A.s = B.s → A.a = B.a → Calls Try.prog 27 #[A.v, B.v] W1 (RetB W1 (.bool true))) := by
    intro W1 A B hA hB hs ha
    have h := eq_any hA hB
    rw [show decide (A.s = B.s ∧ A.a = B.a) = true by simp [hs, ha]] at h
    exact h
  have E1 : Hid (∀ (W1 : World) (B : Ar), Below W10.heap.size W10 W1 → B.Is W1 → B.s = [2] → B.a = [-1, -2] → Calls Try.prog 27 #[.agg #[.slice sa3 sn3 sc3, .slice aa3 an3 ac3], B.v] W1 (RetB W1 (.bool true))) := fun W1 B hb hB hs ha =>
    EQ.out W1 ⟨sa3, sn3, sc3, aa3, an3, ac3, s3, a3⟩ B (I10.out.via hb) hB (S3.out.trans hs.symm) (A3.out.trans ha.symm)
  have E2 : Hid (∀ (W1 : World) (B : Ar), Below W10.heap.size W10 W1 → B.Is W1 → B.s = [2] → B.a = [11, 12] → Calls Try.prog 27 #[.agg #[.slice sa7 sn7 sc7, .slice aa7 an7 ac7], B.v] W1 (RetB W1 (.bool true))) := fun W1 B hb hB hs ha =>
    EQ.out W1 ⟨sa7, sn7, sc7, aa7, an7, ac7, s7, a7⟩ B (J10.out.via hb) hB (S7.out.trans hs.symm) (A7.out.trans ha.symm)
  go_wp2_with fail
  rw [HW10.out]
  go_region_held3 (fun w'' => w''.cell? ⟨w3.heap.size, 0, none⟩ = some (.slice sa3 sn3 sc3) ∧ w''.cell? ⟨w3.heap.size, 1, none⟩ = some (.slice aa3 an3 ac3) ∧ w''.cell? ⟨w7.heap.size, 0, none⟩ = some (.slice sa7 sn7 sc7) ∧ w''.cell? ⟨w7.heap.size, 1, none⟩ = some (.slice aa7 an7 ac7)) (go_keep)
    (first
    | (go_at_call 78; (with_reducible refine Calls.mono LA.out ?_); rintro e w11 ⟨⟨sa11, sn11, sc11, aa11, an11, ac11, s11, a11⟩, rfl, hI11, hs11, ha11, hb11⟩; have hv := abvia (abvia (abal W10 (.cells #[.int .i64 (-1), .int .i64 (-2)] 2)) (adrew1 _)) hb11; have HC := Lib.hid hv; have E1' := Lib.hid (E1.out w11 _ hv hI11 hs11 ha11); simp only [Ar.v] at E1' ⊢; clear hI11 hs11 ha11 hb11 hv; obtain ⟨x0, x1, -, -, -⟩ := X10.out.via HC.out; obtain ⟨y0, y1, -, -, -⟩ := Y10.out.via HC.out)
    | (go_at_call 78; (with_reducible refine Calls.mono (LB.out _) ?_); rintro e w13 ⟨⟨sa13, sn13, sc13, aa13, an13, ac13, s13, a13⟩, rfl, hI13, hs13, ha13, hb13⟩; have hv := abvia (abvia HC2.out (abal _ _)) hb13; have HC3 := Lib.hid hv; have E2' := Lib.hid (E2.out w13 _ hv hI13 hs13 ha13); simp only [Ar.v] at E2' ⊢; clear hI13 hs13 ha13 hb13 hv; obtain ⟨x0, x1, -, -, -⟩ := X10.out.via HC3.out; obtain ⟨y0, y1, -, -, -⟩ := Y10.out.via HC3.out)
    | (go_at_call 27; (with_reducible refine Calls.mono E1'.out ?_); rintro e w12 ⟨rfl, hb12⟩; have HC2 := Lib.hid (abvia HC.out hb12); clear hb12; obtain ⟨x0, x1, -, -, -⟩ := X10.out.via HC2.out; obtain ⟨y0, y1, -, -, -⟩ := Y10.out.via HC2.out)
    | (go_at_call 27; (with_reducible refine Calls.mono E2'.out ?_); rintro e w14 ⟨rfl, hb14⟩; have HC4 := Lib.hid (abvia HC3.out hb14); clear hb14; obtain ⟨x0, x1, -, -, -⟩ := X10.out.via HC4.out; obtain ⟨y0, y1, -, -, -⟩ := Y10.out.via HC4.out)
    | (go_at_call 31; (with_reducible refine Calls.mono (H2.out _) ?_); rintro e w15 ⟨rfl, n15, hw15⟩; have HC5 : Hid (Below W10.heap.size W10 w15) := (by show Below _ _ _; rw [hw15]; exact abvia HC4.out (adrew _ _)); clear hw15; obtain ⟨x0, x1, -, -, -⟩ := X10.out.via HC5.out; obtain ⟨y0, y1, -, -, -⟩ := Y10.out.via HC5.out)
    | (go_at_call 31; (with_reducible refine Calls.mono (H1.out _) ?_); rintro e w16 ⟨rfl, n16, hw16⟩; have HC6 : Hid (Below W10.heap.size W10 w16) := (by show Below _ _ _; rw [hw16]; exact abvia HC5.out (adrew _ _)); clear hw16; obtain ⟨x0, x1, -, -, -⟩ := X10.out.via HC6.out; obtain ⟨y0, y1, -, -, -⟩ := Y10.out.via HC6.out)
    )
  go_wp2
  go_ret
  exact RetB.mk rfl (abvia HB10.out HC6.out)
end Go.Proofs.Ytdedbfbkakofgaa

/- Contracts of the document's May, Count, At (abacusref2). Worlds that differ in some blocks alone; rows of the call's own that are shortened, lengthened to their capacity, and written over. The memory in which a short array is handed in (abacuslaw3.Hand): Lay and Kept. -/
import Derived.Test.YtdedbfbkakofgaaAtomAllM8
import Derived.Test.YtdedbfbkakofgaaAtomAllM4
import Derived.Test.YtdedbfbkakofgaaAtomAllM6
import Derived.Deep.RegionHeld3
import Derived.Deep.CutRange
import Derived.Deep.Cut
namespace Go.Proofs.Ytdedbfbkakofgaa
open Go.RowKit Go.Lib
set_option linter.unusedVariables false
set_option linter.unusedSimpArgs false
attribute [local go_sem] alloc_drewN setCell_drewN

theorem mayE_of {s : List Int} (h1 : ∀ i, i < s.length → 0 ≤ s.getD i 0) : mayE s = if 8 < s.length then 17 else if 4096 < pm s then 17 else 0 := by
  unfold mayE
  rw [if_neg]
  rw [any_neg_iff]
  rintro ⟨i, hi, h⟩
  have := h1 i hi; omega
theorem mayE_neg' {s : List Int} {i : Nat} (hi : i < s.length) (h : s.getD i 0 < 0) : mayE s = 1 := by
  unfold mayE; rw [if_pos (any_neg_iff.2 ⟨i, hi, h⟩)]
set_option maxRecDepth 100000 in
set_option maxHeartbeats 800000 in
theorem rmay_any {w : World} {ao : Option Addr} {n c : Nat} {s : List Int} (h : Ls w ao n c s) :
    Calls Try.prog 52 #[.slice ao n c] w (RetS w (.int .i64 (mayE s))) := by
  have hl := h.len
  have hbig := h.big
  obtain ⟨e, HE⟩ : ∃ e, Hid (mayE s = e) := ⟨_, rfl⟩
  rw [HE.out]
  have H := Lib.hid h
  have HL := Lib.hid hl
  clear h hl
  go_enter Try.func52, Try.ntmps52
  go_wp2_with fail
  go_loopw [3] (fun i wr => ∃ k : Nat, k ≤ n ∧ i = .int .i64 k ∧ Hid (∀ j, j < k → 0 ≤ s.getD j 0) ∧ wr = w) (fun i _ => n - (RowKit.intOf i).toNat)
  case atStart => exact ⟨0, Nat.zero_le _, rfl, fun j hj => absurd hj (by omega), rfl⟩
  case round =>
    obtain ⟨k, hk, rfl, hs, hwr⟩ := hrel
    have hwr' := hwr.symm
    subst hwr'
    by_cases hlt : k < n
    · have hlt' : (k : Int) < n := by omega
      obtain ⟨b1, o1, rfl, hc1⟩ := H.out.at (by omega)
      have d1 := hc1 k hlt
      clear hc1
      obtain ⟨x, HX⟩ : ∃ x, Hid (s.getD k 0 = x) := ⟨_, rfl⟩
      rw [HX.out] at d1
      by_cases hx : x < 0
      · have HF : Hid (e = 1) := by show _ = _; rw [← HE.out]; exact mayE_neg' (by rw [HL.out]; exact hlt) (by rw [HX.out]; exact hx)
        go_wp2
        go_ret
        exact RetS.mk (intv HF.out.symm)
      · have hs' : Hid (∀ j, j < k + 1 → 0 ≤ s.getD j 0) := by
          intro j hj
          by_cases e : j = k
          · subst e; rw [HX.out]; omega
          · exact hs.out j (by omega)
        go_wp2
        go_roundw
        case rel => exact ⟨k + 1, by omega, by go_num, hs', by first | rfl | trivial⟩
        case measure => simp [RowKit.intOf]; omega
    · obtain rfl : k = n := by omega
      have hge : (k : Int) ≤ k := Int.le_refl _
      have hof := mayE_of (s := s) (fun i hi => hs.out i (by rw [← HL.out]; exact hi))
      rw [HE.out, HL.out] at hof
      by_cases h8 : 8 < k
      · rw [if_pos h8] at hof
        have h8' : (8 : Int) < k := by omega
        subst hof
        clear hs
        go_wp2
        go_ret
        exact RetS.mk rfl
      rw [if_neg h8] at hof
      have h8' : ¬ (8 : Int) < k := by omega
      have HOF := Lib.hid hof
      clear hof
      go_wp2_with fail
      go_loopw [4, 5] (fun v i wr => ∃ (q : Nat) (L : Int), q ≤ k ∧ i = .int .i64 q ∧ v = .int .i64 L ∧ Hid (4096 / pm (s.take q) = L) ∧ Hid (pm (s.take q) ≤ 4096) ∧ wr = w) (fun _ i _ => k - (RowKit.intOf i).toNat)
      case atStart => exact ⟨0, 4096, Nat.zero_le _, rfl, rfl, by show _ = _; simp [pm], by show _ ≤ _; simp [pm], rfl⟩
      case round =>
        obtain ⟨q, L, hq, rfl, rfl, HQ, HP, hwr⟩ := hrel
        have hwr' := hwr.symm
        subst hwr'
        by_cases hlt : q < k
        · have hlt' : (q : Int) < k := by omega
          obtain ⟨b1, o1, rfl, hc1⟩ := H.out.at (by omega)
          have d1 := hc1 q hlt
          clear hc1
          have hx0 := hs.out q hlt
          have hx2 := (H.out.rng q).2
          have hp1 := (pm_up s q).1
          have hL1 : 1 ≤ L := by rw [← HQ.out]; have := HP.out; exact (Int.le_ediv_iff_mul_le (by omega)).2 (by omega)
          have hL2 : L ≤ 4096 := by rw [← HQ.out]; exact Int.ediv_le_self _ (by omega)
          have hsn := pm_snoc (s := s) (k := q) (by rw [HL.out]; exact hlt)
          have hall := pm_all s (q + 1)
          obtain ⟨x, HX⟩ : ∃ x, Hid (s.getD q 0 = x) := ⟨_, rfl⟩
          rw [HX.out] at d1 hx0 hx2 hsn
          by_cases hx : 0 < x
          · have m1 : max x 1 = x := by omega
            rw [m1] at hsn
            have hd := Int.ediv_ediv (x := 4096) (y := pm (s.take q)) (z := x)
            rw [if_neg (by omega), Int.sub_zero, HQ.out, ← hsn] at hd
            have m2 : L.tdiv x = L / x := Int.tdiv_eq_ediv_of_nonneg (by omega)
            have m3 : 0 ≤ L / x ∧ L / x ≤ L := ⟨Int.ediv_nonneg (by omega) (by omega), Int.ediv_le_self _ (by omega)⟩
            obtain ⟨Q2, HQ2⟩ : ∃ Q2, Hid (L / x = Q2) := ⟨_, rfl⟩
            rw [HQ2.out] at m2 m3 hd
            have m6 : IntKind.i64.wrap Q2 = Q2 := IntWalk.i64_in _ (by omega)
            have m7 : (x == 0) = false := by simp; omega
            have m8 : ¬ x = 0 := by omega
            have hp2 := (pm_up s (q + 1)).1
            by_cases hz : Q2 = 0
            · have HF : Hid (e = 17) := by
                show _ = _
                rw [HOF.out, if_pos]
                rw [hz] at hd
                by_cases hg : pm (s.take (q + 1)) ≤ 4096
                · exfalso
                  have h1 : 1 ≤ 4096 / pm (s.take (q + 1)) := (Int.le_ediv_iff_mul_le (by omega)).2 (by omega)
                  omega
                · omega
              subst hz
              clear hd hsn hall hp1 hp2 hL1 hL2 hx0 hx2 m3 m1
              go_wp2
              go_ret
              exact RetS.mk (intv HF.out.symm)
            · have hz' : (Q2 == 0) = false := by simpa using hz
              have HP2 : Hid (pm (s.take (q + 1)) ≤ 4096) := by
                show _ ≤ _
                by_cases hg : pm (s.take (q + 1)) ≤ 4096
                · exact hg
                · exfalso; apply hz; rw [hd]; exact Int.ediv_eq_zero_of_lt (by omega) (by omega)
              have HQ3 : Hid (4096 / pm (s.take (q + 1)) = Q2) := hd.symm
              clear hd hsn hall hp1 hp2 hL1 hL2 hx0 hx2 m3 m1
              go_wp2
              go_roundw
              case rel => exact ⟨q + 1, Q2, by omega, by go_num, rfl, HQ3, HP2, by first | rfl | trivial⟩
              case measure => simp [RowKit.intOf]; omega
          · have m1 : max x 1 = 1 := by omega
            rw [m1, Int.mul_one] at hsn
            have HP2 : Hid (pm (s.take (q + 1)) ≤ 4096) := by show _ ≤ _; rw [hsn]; exact HP.out
            have HQ3 : Hid (4096 / pm (s.take (q + 1)) = L) := by show _ = _; rw [hsn]; exact HQ.out
            have hz' : (L == 0) = false := by simp; omega
            clear hsn hall hp1 hx0 hx2 m1
            go_wp2
            go_roundw
            case rel => exact ⟨q + 1, L, by omega, by go_num, rfl, HQ3, HP2, by first | rfl | trivial⟩
            case measure => simp [RowKit.intOf]; omega
        · obtain rfl : q = k := by omega
          have hge : (q : Int) ≤ q := Int.le_refl _
          have HF : Hid (e = 0) := by
            show _ = _
            have h1 := HP.out
            rw [List.take_of_length_le (by rw [HL.out]; omega)] at h1
            rw [HOF.out, if_neg (by omega)]
          go_wp2
          go_ret
          exact RetS.mk (intv HF.out.symm)
set_option maxHeartbeats 400000 in
theorem rcount_any {w : World} {ao : Option Addr} {n c : Nat} {s : List Int} (h : Ls w ao n c s) (hm : mayE s = 0) :
    Calls Try.prog 94 #[.slice ao n c] w (RetS w (.int .i64 (pr s))) := by
  obtain ⟨g1, g2, g3⟩ := mayE_zero hm
  have hl := h.len
  have hb : n ≤ 8 := by omega
  have H := Lib.hid h
  have HL := Lib.hid hl
  have HG1 := Lib.hid g1
  have HG3 := Lib.hid g3
  obtain ⟨R, HR⟩ : ∃ R, Hid (pr s = R) := ⟨_, rfl⟩
  rw [HR.out]
  clear h hl g1 g2 g3 hm
  go_enter Try.func94, Try.ntmps94
  go_wp2_with fail
  go_loopw [3, 4] (fun p i wr => ∃ (k : Nat) (P : Int), k ≤ n ∧ i = .int .i64 k ∧ p = .int .i64 P ∧ Hid (pr (s.take k) = P) ∧ wr = w) (fun _ i _ => n - (RowKit.intOf i).toNat)
  case atStart => exact ⟨0, 1, Nat.zero_le _, rfl, rfl, rfl, rfl⟩
  case round =>
    obtain ⟨k, P, hk, rfl, rfl, HP, hwr⟩ := hrel
    have hwr' := hwr.symm
    subst hwr'
    by_cases hlt : k < n
    · have hlt' : (k : Int) < n := by omega
      obtain ⟨b2, o2, rfl, hc2⟩ := H.out.at (by omega)
      have d2 := hc2 k hlt
      obtain ⟨y, HY⟩ : ∃ y, Hid (s.getD k 0 = y) := ⟨_, rfl⟩
      rw [HY.out] at d2
      have HP2 : Hid (pr (s.take (k + 1)) = P * y) := by show _ = _; rw [pr_snoc (by rw [HL.out]; exact hlt), HP.out, HY.out]
      have z1 : IntKind.i64.wrap (P * y) = P * y := by
        have h1 := pr_le s HG1.out (k + 1)
        have h2 := pm_all s (k + 1)
        have h3 := HG3.out
        rw [HP2.out] at h1
        exact IntWalk.i64_in _ (by omega)
      clear hc2
      go_wp2
      go_roundw
      case rel => exact ⟨k + 1, P * y, by omega, by go_num, rfl, HP2, by first | rfl | trivial⟩
      case measure => simp [RowKit.intOf]; omega
    · obtain rfl : k = n := by omega
      have hge : (k : Int) ≤ k := Int.le_refl _
      have HF : Hid (P = R) := by show _ = _; rw [← HR.out, ← HP.out, List.take_of_length_le (by rw [HL.out]; omega)]
      go_wp2
      go_ret
      exact RetS.mk (intv HF.out)
set_option maxRecDepth 100000 in
set_option maxHeartbeats 800000 in
theorem rat_ok {w : World} {ao : Option Addr} {n c : Nat} {s : List Int} (h : Ls w ao n c s) (p : Int) (hm : mayE s = 0) (hpp : 0 ≤ p ∧ p < pr s) :
    Calls Try.prog 55 #[.slice ao n c, .int .i64 p] w (MadeS w (ixL s p) 0) := by
  obtain ⟨g1, g2, g3⟩ := mayE_zero hm
  have hpb := pr_le s g1 s.length
  rw [List.take_length] at hpb
  have hlen := h.len
  have hn : n ≤ 1000 := by omega
  have hp : 0 ≤ p ∧ p ≤ 1000000 := by omega
  have hs := pos_all g1 (by omega)
  have CM := Lib.hid (rmay_any h)
  have CC := Lib.hid (rcount_any h hm)
  rw [hm] at CM
  obtain ⟨PR, HPR⟩ : ∃ P, Hid (pr s = P) := ⟨_, rfl⟩
  rw [HPR.out] at CC hpp
  have hp0 : 0 ≤ p := hpp.1
  have hpq : p < PR := hpp.2
  clear hpp g1 g2 g3 hpb hlen hm
  have hmk := fun w => mk_int n (by omega) w
  have hl := h.len
  have HO0 := Lib.hid (own_zeros w 3 n w.heap.size (by omega) (Nat.le_refl _))
  have H := Lib.hid h
  have HS := Lib.hid hs
  have HL := Lib.hid hl
  have z0 : IntKind.i64.wrap ((n : Int) - 1) = n - 1 := IntWalk.i64_in _ (by omega)
  clear h hs hl
  go_enter Try.func55, Try.ntmps55
  go_wp2_with fail
  refine CM.out.mono ?_; rintro e' w' ⟨rfl, hw'⟩
  have hw'' := hw'.symm
  subst hw''
  go_wp2_with fail
  refine CC.out.mono ?_; rintro e' w' ⟨rfl, hw'⟩
  have hw'' := hw'.symm
  subst hw''
  go_wp2_with fail
  go_loopw [1, 8] (fun q i wr => ∃ (k : Nat) (Q : Int), k ≤ n ∧ i = .int .i64 ((k : Int) - 1) ∧ q = .int .i64 Q ∧ Hid (p / pr (s.drop k) = Q) ∧ Hid (wr.ownsRow w.heap.size 3 1 (.slice (some ⟨w.heap.size, 0, none⟩) n n) n ((List.replicate k (0 : Int) ++ (ixL s p).drop k).map (Value.int .i64))) ∧ Hid (Below w.heap.size w wr)) (fun _ i _ => (RowKit.intOf i + 1).toNat)
  case atStart =>
    refine ⟨n, p, Nat.le_refl _, rfl, rfl, ?_, ?_, (Below.refl _ _).alloc (Nat.le_refl _) _⟩
    · show _ = _; rw [List.drop_of_length_le (by rw [HL.out]; omega)]; simp [pr]
    · rw [List.drop_of_length_le (by rw [ixL_len, HL.out]; omega), List.append_nil]; exact HO0
  case round =>
    obtain ⟨k, Q, hk, rfl, rfl, HQ, HO, HB⟩ := hrel
    by_cases h0 : 0 < k
    · obtain ⟨j, rfl⟩ : ∃ j, k = j + 1 := ⟨k - 1, by omega⟩
      have e0 : ((j + 1 : Nat) : Int) - 1 = j := by omega
      rw [e0]
      have hj : j < n := by omega
      have hj' : (j : Int) < n := by omega
      have hL := H.out.below HB.out (Nat.le_refl _)
      obtain ⟨b1, o1, rfl, hb1, hc1⟩ := H.out.mem (by omega)
      have d1 := (HB.out.cell (p := ⟨b1, o1 + j, none⟩) hb1).trans (hc1 j hj)
      have d4 : (wr.setCell ⟨w.heap.size, j, none⟩ (.int .i64 ((ixL s p).getD j 0))).cell? ⟨b1, o1 + j, none⟩ = some (.int .i64 (s.getD j 0)) := by
        rw [World.cell?_setCell_far _ _ _ _ (by dsimp only; omega)]; exact d1
      have d2 : ∃ v, wr.cell? ⟨w.heap.size, j, none⟩ = some v := by
        rw [HO.out.cellAt j (by omega)]
        exact ⟨_, List.getElem?_eq_getElem (by have := HO.out.1; rw [this]; omega)⟩
      obtain ⟨v0, d2⟩ := d2
      have d3 := HO.out.frozenAt j
      have hx1 := HS.out j (by rw [HL.out]; omega)
      have hx2 := (hL.rng j).2
      have hq1 : 0 ≤ Q := by rw [← HQ.out]; exact Int.ediv_nonneg hp.1 (by have := pr_drop_pos HS.out (j + 1); omega)
      have hq2 : Q ≤ 1000000 := by rw [← HQ.out]; exact Int.le_trans (Int.ediv_le_self _ hp.1) hp.2
      have hix := ixL_at (s := s) (p := p) (k := j) (by rw [HL.out]; omega)
      rw [HQ.out] at hix
      have hq3 : p / pr (s.drop j) = Q / s.getD j 0 := by
        rw [pr_drop (by rw [HL.out]; omega), Int.mul_comm]
        have hd := Int.ediv_ediv (x := p) (y := pr (s.drop (j + 1))) (z := s.getD j 0)
        rw [if_neg (by have := pr_drop_pos HS.out (j + 1); omega), Int.sub_zero, HQ.out] at hd
        exact hd.symm
      have HO2 := Lib.hid ((HO.out.stored j (.int .i64 ((ixL s p).getD j 0))).1)
      have hset := set_ix (L := ixL s p) (k := j) (by rw [ixL_len, HL.out]; omega)
      rw [← List.map_set, hset] at HO2
      obtain ⟨x, HX⟩ : ∃ x, Hid (s.getD j 0 = x) := ⟨_, rfl⟩
      obtain ⟨y, HY⟩ : ∃ y, Hid ((ixL s p).getD j 0 = y) := ⟨_, rfl⟩
      rw [HX.out] at d1 d4 hx1 hx2 hix hq3
      rw [HY.out] at hix HO2 d4
      have m1 : Q.tmod x = y := by rw [hix, Int.tmod_eq_emod_of_nonneg hq1]
      have m2 : Q.tdiv x = Q / x := Int.tdiv_eq_ediv_of_nonneg hq1
      have m3 : 0 ≤ Q / x ∧ Q / x ≤ Q := ⟨Int.ediv_nonneg hq1 (by omega), Int.ediv_le_self _ hq1⟩
      have m4 : 0 ≤ y ∧ y < x := by rw [hix]; exact ⟨Int.emod_nonneg _ (by omega), Int.emod_lt_of_pos _ (by omega)⟩
      obtain ⟨Q2, HQ2⟩ : ∃ Q2, Hid (Q / x = Q2) := ⟨_, rfl⟩
      rw [HQ2.out] at m2 m3 hq3
      have HQ3 := Lib.hid hq3
      have m5 : IntKind.i64.wrap y = y := IntWalk.i64_in _ (by omega)
      have m6 : IntKind.i64.wrap Q2 = Q2 := IntWalk.i64_in _ (by omega)
      have m7 : (x == 0) = false := by simp; omega
      have m8 : ¬ x = 0 := by omega
      have m9 : IntKind.i64.wrap ((j : Int) - 1) = j - 1 := IntWalk.i64_in _ (by omega)
      have HB2 := Lib.hid (HB.out.setCell (show w.heap.size ≤ (⟨w.heap.size, j, none⟩ : Addr).block from Nat.le_refl _) (.int .i64 y))
      clear hL hc1 hb1 hx1 hx2 hq1 hq2 hix hq3 hset m3 m4 HX HY
      go_wp2
      go_roundw
      case rel => exact ⟨j, Q2, by omega, rfl, rfl, HQ3, HO2, HB2⟩
      case measure => simp [RowKit.intOf]
    · obtain rfl : k = 0 := by omega
      have hout := HO.out
      simp only [List.replicate_zero, List.nil_append, List.drop_zero] at hout
      have HF : Hid (MadeS w (ixL s p) 0 (.returned (.tuple #[.slice (some ⟨w.heap.size, 0, none⟩) n n, .int .i64 0])) wr) := by
        refine ⟨_, _, _, rfl, ls_of_own hout (by omega) (fun i => ?_), hout, HB.out⟩
        by_cases hi : i < s.length
        · have h1 := ixL_rng (p := p) HS.out i hi
          have h2 := (H.out.rng i).2
          omega
        · rw [show (ixL s p).getD i 0 = 0 by simp [List.getD, ixL, hi]]; omega
      clear hout
      go_wp2
      go_ret2
      exact HF.out
set_option maxRecDepth 100000 in
set_option maxHeartbeats 400000 in
theorem rat_any {w : World} {ao : Option Addr} {n c : Nat} {s : List Int} (h : Ls w ao n c s) (p : Int) :
    Calls Try.prog 55 #[.slice ao n c, .int .i64 p] w (MadeS w (atL s p) (atE s p)) := by
  have CZ := Lib.hid (rmay_any h)
  by_cases hm : ¬ mayE s = 0
  · rw [show atL s p = [] by simp [atL, hm], show atE s p = mayE s by simp [atE, hm]]
    obtain ⟨e, he⟩ : ∃ v, mayE s = v := ⟨_, rfl⟩
    rw [he] at CZ hm ⊢
    have hm' : (e != 0) = true := by simpa using hm
    clear h he hm
    go_enter Try.func55, Try.ntmps55
    go_wp2_with fail
    refine CZ.out.mono ?_; rintro e' w' ⟨rfl, rfl⟩
    go_wp2
    go_ret2
    exact MadeS.nil _ (Below.refl _ _)
  have hm : mayE s = 0 := by simpa using hm
  have hz : szE s = pr s := by simp [szE, hm]
  rw [hm] at CZ
  have CC := Lib.hid (rcount_any h hm)
  obtain ⟨g1, g2, g3⟩ := mayE_zero hm
  have hpb := pr_le s g1 s.length
  rw [List.take_length] at hpb
  have hlen := h.len
  by_cases hp : 0 ≤ p ∧ p < pr s
  · rw [show atL s p = ixL s p by simp [atL, hm, hp], show atE s p = 0 by simp [atE, hm, hp]]
    exact rat_ok h p hm hp
  · rw [show atL s p = [] by simp [atL, hp], show atE s p = 13 by simp [atE, hm, hp]]
    obtain ⟨P, HP⟩ : ∃ P, Hid (pr s = P) := ⟨_, rfl⟩
    rw [HP.out] at CC hp
    clear h hm hz g1 g2 g3 hpb hlen
    by_cases h0 : p < 0
    · go_enter Try.func55, Try.ntmps55
      go_wp2_with fail
      refine CZ.out.mono ?_; rintro e' w' ⟨rfl, rfl⟩
      go_wp2
      go_ret2
      exact MadeS.nil _ (Below.refl _ _)
    · have h1 : P ≤ p := by omega
      go_enter Try.func55, Try.ntmps55
      go_wp2_with fail
      refine CZ.out.mono ?_; rintro e' w' ⟨rfl, rfl⟩
      go_wp2_with fail
      refine CC.out.mono ?_; rintro e' w2 ⟨rfl, rfl⟩
      go_wp2
      go_ret2
      exact MadeS.nil _ (Below.refl _ _)
end Go.Proofs.Ytdedbfbkakofgaa

namespace Go.Proofs.Ytdedbfbkakofgaa
open Go.RowKit Go.Lib
set_option linter.unusedVariables false
set_option linter.unusedSimpArgs false
/-- Of the blocks that were there those of F alone may hold something else. -/
structure Out (F : Nat → Prop) (w w' : World) : Prop where
  os : w'.os = w.os
  tape : w'.tape = w.tape
  output : w'.output = w.output
  size : w.heap.size ≤ w'.heap.size
  block : ∀ k, k < w.heap.size → ¬ F k → w'.heap[k]? = w.heap[k]?
theorem Out.refl (F : Nat → Prop) (w : World) : Out F w w := ⟨rfl, rfl, rfl, Nat.le_refl _, fun _ _ _ => rfl⟩
theorem Out.trans {F G : Nat → Prop} {a b c : World} (h : Out F a b) (k : Out G b c) (hG : ∀ i, i < a.heap.size → G i → F i) : Out F a c :=
  ⟨k.os.trans h.os, k.tape.trans h.tape, k.output.trans h.output, Nat.le_trans h.size k.size, fun i hi hn => (k.block i (Nat.lt_of_lt_of_le hi h.size) (fun g => hn (hG i hi g))).trans (h.block i hi hn)⟩
theorem Out.weak {F G : Nat → Prop} {a b : World} (h : Out F a b) (hG : ∀ i, i < a.heap.size → F i → G i) : Out G a b :=
  ⟨h.os, h.tape, h.output, h.size, fun i hi hn => h.block i hi (fun g => hn (hG i hi g))⟩
theorem Out.of {F : Nat → Prop} {w w' : World} (h : Below w.heap.size w w') : Out F w w' := ⟨h.os, h.tape, h.output, h.size, fun k hk _ => h.block k hk⟩
theorem Out.via {F : Nat → Prop} {w w1 w2 : World} (h : Out F w w1) (h2 : Below w1.heap.size w1 w2) : Out F w w2 := h.trans (G := fun _ => False) (.of h2) (fun _ _ h => h.elim)
theorem Out.toBelow {F : Nat → Prop} {w w' : World} (h : Out F w w') {B : Nat} (hF : ∀ k, F k → B ≤ k) (hB : B ≤ w.heap.size) : Below B w w' :=
  ⟨h.os, h.tape, h.output, h.size, fun k hk => h.block k (by omega) (fun f => by have := hF k f; omega)⟩
theorem Out.setCell {F : Nat → Prop} {a w : World} (h : Out F a w) {p : Addr} (hp : F p.block ∨ a.heap.size ≤ p.block) (u : Value) : Out F a (w.setCell p u) := by
  have k : Out (fun k => k = p.block) w (w.setCell p u) := ⟨rfl, rfl, rfl, by simp [World.setCell], fun k hk hn => Below.heap_setCell _ _ _ _ hn⟩
  refine h.trans k fun i hi e => ?_
  rcases hp with hp | hp
  · rw [show i = p.block from e]; exact hp
  · have : i = p.block := e
    omega
theorem Out.alloc {F : Nat → Prop} {a w : World} (h : Out F a w) (o : Obj) : Out F a (w.alloc o) := h.via (abal _ _)
theorem Out.grown {F : Nat → Prop} {a w w' : World} {row : Option Nat} (h : Out F a w) (hg : w.grownBy w' row) (hr : ∀ k, row = some k → F k ∨ a.heap.size ≤ k) : Out F a w' := by
  have k : Out (fun k => row = some k) w w' := ⟨hg.os, hg.tape, hg.output, hg.size, fun k hk hn => hg.block k hk (fun e => hn e.symm)⟩
  refine h.trans k fun i hi e => ?_
  rcases hr i e with hp | hp
  · exact hp
  · omega
theorem Out.cell {F : Nat → Prop} {w w' : World} (h : Out F w w') {p : Addr} (hp : p.block < w.heap.size) (hn : ¬ F p.block) : w'.cell? p = w.cell? p := World.cell?_of_block (w := w) (h.block p.block hp hn)
theorem Out.frozen {F : Nat → Prop} {w w' : World} (h : Out F w w') {p : Addr} (hp : p.block < w.heap.size) (hn : ¬ F p.block) : w'.frozen? p = w.frozen? p := World.frozen?_of_block (w := w) (h.block p.block hp hn)
theorem Out.own {F : Nat → Prop} {w w' : World} (h : Out F w w') {base : Nat} {E : TypeId} {v : Value} {n : Nat} {xs : List Value} (ho : w.ownsRow base E 1 v n xs) (hn : ∀ g, v.ownBlock = some g → ¬ F g) : w'.ownsRow base E 1 v n xs := by
  obtain ⟨h1, h2⟩ := ho
  refine ⟨h1, ?_⟩
  rcases h2 with h2 | ⟨g, cap, cur, hv, hg, hh, r⟩
  · exact .inl h2
  · refine .inr ⟨g, cap, cur, hv, hg, ?_, r⟩
    rw [h.block g (by have := (Array.getElem?_eq_some_iff.1 hh).1; omega) (hn g (by rw [hv]; rfl))]; exact hh
theorem Out.boxA {F : Nat → Prop} {w w' : World} (h : Out F w w') {b : Nat} {u v : Value} (hb : BoxA w b u v) (hn : ¬ F b) : BoxA w' b u v :=
  ⟨(h.cell (p := ⟨b, 0, none⟩) hb.lt hn).trans hb.c0, (h.cell (p := ⟨b, 1, none⟩) hb.lt hn).trans hb.c1, (h.frozen (p := ⟨b, 0, none⟩) hb.lt hn).trans hb.f0, (h.frozen (p := ⟨b, 1, none⟩) hb.lt hn).trans hb.f1, Nat.lt_of_lt_of_le hb.lt h.size⟩
/-- A row cut to none of its elements; lengthened to its capacity. -/
theorem own_shut {w : World} {base : Nat} {E : TypeId} {ao : Option Addr} {n c : Nat} {xs : List Value} (h : w.ownsRow base E 1 (.slice ao n c) n xs) : w.ownsRow base E 1 (.slice ao 0 c) 0 [] := by
  obtain ⟨h1, h2⟩ := h
  refine ⟨rfl, ?_⟩
  rcases h2 with ⟨h2, h3⟩ | ⟨g, cap, cur, hv, hg, hh, hc, hm, hs, ht⟩
  · left; cases h2; exact ⟨rfl, rfl⟩
  · right; cases hv; exact ⟨g, c, cur, rfl, hg, hh, by omega, hm, hs, by simp⟩
theorem own_full {w : World} {base : Nat} {E : TypeId} {ao : Option Addr} {n c : Nat} {xs : List Value} (h : w.ownsRow base E 1 (.slice ao n c) n xs) :
    n ≤ c ∧ c ≤ maxLen ∧ ∃ ys : List Value, ys.length = c - n ∧ w.ownsRow base E 1 (.slice ao c c) c (xs ++ ys) := by
  obtain ⟨h1, h2⟩ := h
  rcases h2 with ⟨h2, h3⟩ | ⟨g, cap, cur, hv, hg, hh, hc, hm, hs, ht⟩
  · cases h2
    have : xs = [] := List.eq_nil_of_length_eq_zero (by omega)
    subst this
    exact ⟨Nat.le_refl _, Nat.zero_le _, [], rfl, rfl, .inl ⟨rfl, rfl⟩⟩
  · cases hv
    rw [Nat.mul_one] at ht hs h1
    have hl : cur.toList.length = c := by simpa using hs
    have he : xs ++ cur.toList.drop n = cur.toList := by rw [← ht, List.take_append_drop]
    refine ⟨hc, hm, cur.toList.drop n, by simp; omega, by rw [he]; omega, .inr ⟨g, c, cur, rfl, hg, hh, Nat.le_refl _, hm, by omega, ?_⟩⟩
    rw [Nat.mul_one, he, List.take_of_length_le (by omega)]
/-- A whole row in one piece. -/
theorem own_some {w : World} {base : Nat} {E : TypeId} {ao : Option Addr} {n c : Nat} {xs : List Value} (h : w.ownsRow base E 1 (.slice ao n c) n xs) (h0 : 0 < c) : ∃ g, ao = some ⟨g, 0, none⟩ ∧ base ≤ g ∧ g < w.heap.size := by
  obtain ⟨h1, h2⟩ := h
  rcases h2 with ⟨h2, h3⟩ | ⟨g, cap, cur, hv, hg, hh, hc⟩
  · cases h2; omega
  · cases hv; exact ⟨g, rfl, hg, (Array.getElem?_eq_some_iff.1 hh).1⟩
theorem own_zero {w : World} {base : Nat} {E : TypeId} {ao : Option Addr} {n c : Nat} {xs : List Value} (h : w.ownsRow base E 1 (.slice ao n c) n xs) (h0 : ao = none) : n = 0 ∧ c = 0 := by
  obtain ⟨h1, h2⟩ := h
  rcases h2 with ⟨h2, h3⟩ | ⟨g, cap, cur, hv, hg, hh, hc⟩
  · cases h2; exact ⟨h3, rfl⟩
  · cases hv; cases h0
end Go.Proofs.Ytdedbfbkakofgaa

namespace Go.Proofs.Ytdedbfbkakofgaa
open Go.RowKit Go.Lib
set_option linter.unusedVariables false
set_option linter.unusedSimpArgs false
attribute [local go_sem] alloc_drewN setCell_drewN

structure Hd where
  (hb : Nat)
  (sa : Option Addr)
  (sn : Nat)
  (aa : Option Addr)
  (an : Nat)
  (S A : List Int)
/-- The blocks of the hand. -/
def Hd.foot (H : Hd) (k : Nat) : Prop := k = H.hb ∨ (Value.slice H.sa H.sn H.sn).ownBlock = some k ∨ (Value.slice H.aa H.an H.an).ownBlock = some k
structure Hd.Is (H : Hd) (base : Nat) (w : World) : Prop where
  box : BoxA w H.hb (.slice H.sa H.sn H.sn) (.slice H.aa H.an H.an)
  shp : w.ownsRow base 3 1 (.slice H.sa H.sn H.sn) H.sn (H.S.map (Value.int .i64))
  ats : w.ownsRow base 2 1 (.slice H.aa H.an H.an) H.an (H.A.map (Value.int .i64))
  le : base ≤ H.hb
  n1 : (Value.slice H.sa H.sn H.sn).ownBlock ≠ some H.hb
  n2 : (Value.slice H.aa H.an H.an).ownBlock ≠ some H.hb
  ne : ∀ g, (Value.slice H.sa H.sn H.sn).ownBlock = some g → (Value.slice H.aa H.an H.an).ownBlock ≠ some g
  alt : (H.sa = none ∧ H.aa = none) ∨ (H.sa ≠ none ∧ H.aa ≠ none)
theorem Hd.Is.foot_lt {H : Hd} {base : Nat} {w : World} (h : H.Is base w) {k : Nat} (hk : H.foot k) : base ≤ k ∧ k < w.heap.size := by
  rcases hk with rfl | hk | hk
  · exact ⟨h.le, h.box.lt⟩
  · exact own_block h.shp hk
  · exact own_block h.ats hk
theorem Hd.Is.out {H : Hd} {base : Nat} {w w' : World} {F : Nat → Prop} (h : H.Is base w) (ho : Out F w w') (hF : ∀ k, H.foot k → ¬ F k) : H.Is base w' :=
  ⟨ho.boxA h.box (hF _ (.inl rfl)), ho.own h.shp (fun g hg => hF g (.inr (.inl hg))), ho.own h.ats (fun g hg => hF g (.inr (.inr hg))), h.le, h.n1, h.n2, h.ne, h.alt⟩
theorem Hd.Is.via {H : Hd} {base : Nat} {w w' : World} (h : H.Is base w) (hb : Below w.heap.size w w') : H.Is base w' := h.out (F := fun _ => False) (.of hb) (fun _ _ h => h)
theorem own_len {w : World} {base : Nat} {E : TypeId} {v : Value} {n : Nat} {S : List Int} (h : w.ownsRow base E 1 v n (S.map (Value.int .i64))) : S.length = n := by
  have := h.1; simpa using this
theorem Hd.Is.setS {H : Hd} {base : Nat} {w : World} (h : H.Is base w) {g k : Nat} (hg : H.sa = some ⟨g, 0, none⟩) (v : Int) : Hd.Is { H with S := H.S.set k v } base (w.setCell ⟨g, k, none⟩ (.int .i64 v)) := by
  have hv : (Value.slice H.sa H.sn H.sn).ownBlock = some g := by rw [hg]; rfl
  have hne : g ≠ H.hb := fun e => by
    exact h.n1 (by rw [hv, e])
  have ho : Out (fun k => k = g) w (w.setCell ⟨g, k, none⟩ (.int .i64 v)) := (Out.refl (fun k => k = g) w).setCell (p := ⟨g, k, none⟩) (.inl rfl) _
  have hst := h.shp
  rw [hg] at hst
  have hs := (hst.stored k (.int .i64 v)).1
  rw [← List.map_set] at hs
  exact ⟨ho.boxA h.box (fun e => hne e.symm), by rw [hg]; exact hs, ho.own h.ats (fun q hq e => h.ne g hv (by rw [hq, e])), h.le, h.n1, h.n2, h.ne, h.alt⟩
theorem Hd.Is.setA {H : Hd} {base : Nat} {w : World} (h : H.Is base w) {g k : Nat} (hg : H.aa = some ⟨g, 0, none⟩) (v : Int) : Hd.Is { H with A := H.A.set k v } base (w.setCell ⟨g, k, none⟩ (.int .i64 v)) := by
  have hv : (Value.slice H.aa H.an H.an).ownBlock = some g := by rw [hg]; rfl
  have hne : g ≠ H.hb := fun e => by
    exact h.n2 (by rw [hv, e])
  have ho : Out (fun k => k = g) w (w.setCell ⟨g, k, none⟩ (.int .i64 v)) := (Out.refl (fun k => k = g) w).setCell (p := ⟨g, k, none⟩) (.inl rfl) _
  have hst := h.ats
  rw [hg] at hst
  have hs := (hst.stored k (.int .i64 v)).1
  rw [← List.map_set] at hs
  exact ⟨ho.boxA h.box (fun e => hne e.symm), ho.own h.shp (fun q hq e => h.ne q hq (by rw [hv, e])), by rw [hg]; exact hs, h.le, h.n1, h.n2, h.ne, h.alt⟩
/-- The i-th mark behind a list. -/
def mkS (i : Nat) : Int := wrap64 (-70000 - (i : Int))
def mkA (i : Nat) : Int := wrap64 (-80000 - (i : Int))
/-- What stands in a row, as far as it reaches: a list, marks behind it. -/
def Good (s S : List Int) (f : Nat → Int) : Prop := ∀ i, i < S.length → S.getD i 0 = if i < s.length then s.getD i 0 else f i
/-- A row whose first k elements are written over. -/
def ovr (v : Int) (k : Nat) (S : List Int) : List Int := List.replicate k v ++ S.drop k
theorem ovr_len (v : Int) {k : Nat} {S : List Int} (h : k ≤ S.length) : (ovr v k S).length = S.length := by simp [ovr]; omega
theorem ovr_set (v : Int) {k : Nat} {S : List Int} (h : k < S.length) : (ovr v k S).set k v = ovr v (k + 1) S := by
  unfold ovr
  rw [List.set_append_right _ _ (by simp), List.length_replicate, Nat.sub_self, List.drop_eq_getElem_cons h, List.set_cons_zero, List.replicate_succ', List.append_assoc]
  rfl
theorem ovr_get (v : Int) {k : Nat} {S : List Int} (h : k < S.length) : (ovr v k S).getD k 0 = S.getD k 0 := by
  unfold ovr
  rw [List.getD_eq_getElem?_getD, List.getElem?_append_right (by simp), List.length_replicate, Nat.sub_self, List.getElem?_drop, Nat.add_zero, List.getD_eq_getElem?_getD]
/-- The hand after Kept: its own blocks alone were written. -/
def KeptP (H : Hd) (base : Nat) (w : World) (e : Ending) (w' : World) : Prop :=
  e = .returned (.bool true) ∧ Out H.foot w w' ∧ ∃ H' : Hd, H'.hb = H.hb ∧ (∀ k, H'.foot k → H.foot k) ∧ H'.Is base w'
theorem beq_same (x : Int) : (x == x) = true := by simp
set_option maxRecDepth 100000 in
set_option maxHeartbeats 1600000 in
theorem kept_any {w0 w : World} {H : Hd} {A : Ar} (hA : A.Is w0) (hv : Below w0.heap.size w0 w) (hH : H.Is w0.heap.size w) (hs : Good A.s H.S mkS) (ha : Good A.a H.A mkA) :
    Calls Try.prog 36 #[.pointer (some ⟨H.hb, 0, none⟩), A.v] w (KeptP H w0.heap.size w) := by
  obtain ⟨ta, tn, tc, ba, bn, bc, t, b⟩ := A
  simp only [Ar.v] at hs ha ⊢
  obtain ⟨hb, sa, sn, aa, an, S, R⟩ := H
  simp only at hs ha ⊢
  obtain ⟨W, HW⟩ : ∃ z, Hid (w.alloc (.cells #[.slice ta tn tc, .slice ba bn bc] 55) = z) := ⟨_, rfl⟩
  have hw : Below w.heap.size w W := by rw [← HW.out]; exact abal _ _
  have BY : Hid (BoxA W w.heap.size (.slice ta tn tc) (.slice ba bn bc)) := by show BoxA _ _ _ _; rw [← HW.out]; exact BoxA.new _ _ _ _
  have HHW := Lib.hid (hH.via hw)
  have HVW := Lib.hid (hv.trans (hw.mono hv.size))
  have HWB := Lib.hid hw
  have HF := Lib.hid (fun k (hk : Hd.foot ⟨hb, sa, sn, aa, an, S, R⟩ k) => hH.foot_lt hk)
  have LT := Lib.hid hA.shp.len
  have LB := Lib.hid hA.ats.len
  have LS := Lib.hid (own_len hH.shp)
  have LR := Lib.hid (own_len hH.ats)
  have gs := hH.shp
  obtain ⟨gs1, gs2, -⟩ := own_full gs
  have ga := hH.ats
  obtain ⟨ga1, ga2, -⟩ := own_full ga
  simp only at LT LB LS LR gs2 ga2
  unfold maxLen at gs2 ga2
  have HS := Lib.hid hs
  have HA := Lib.hid ha
  have IA := Lib.hid hA
  have bt := hA.shp.big
  have bb := hA.ats.big
  simp only at bt bb
  have HZ : Hid (∀ wr, Out (Hd.foot ⟨hb, sa, sn, aa, an, S, R⟩) W wr → Below w0.heap.size w0 wr ∧ BoxA wr w.heap.size (.slice ta tn tc) (.slice ba bn bc)) := by
    intro wr ho
    refine ⟨HVW.out.trans (ho.toBelow (fun k hk => (HF.out k hk).1) (Nat.le_trans HVW.out.size (Nat.le_refl _))), ho.boxA BY.out fun hk => ?_⟩
    have := (HF.out _ hk).2; omega
  clear hA hv hH hs ha hw gs ga
  go_enter Try.func36, Try.ntmps36
  have q0 := HHW.out.box
  simp only at q0
  obtain ⟨x0, x1, x2, x3, x4⟩ := q0
  obtain ⟨y0, y1, -, -, -⟩ := BY.out
  go_wp2_with fail
  rw [HW.out]
  go_loopw [5, 6] (fun o i wr => ∃ k : Nat, k ≤ sn ∧ o = .bool true ∧ i = .int .i64 k ∧ Hid (Hd.Is ⟨hb, sa, sn, aa, an, ovr 3 k S, R⟩ w0.heap.size wr) ∧ Hid (Out (Hd.foot ⟨hb, sa, sn, aa, an, S, R⟩) W wr)) (fun _ i _ => sn - (RowKit.intOf i).toNat)
  case atStart => exact ⟨0, Nat.zero_le _, rfl, rfl, HHW, Out.refl _ _⟩
  case round =>
    obtain ⟨k, hk, rfl, rfl, HI, HO⟩ := hrel
    clear x0 x1 x2 x3 x4 y0 y1
    have q0 := HI.out.box
    simp only at q0
    obtain ⟨x0, x1, x2, x3, x4⟩ := q0
    obtain ⟨HBV, q1⟩ := HZ.out wr HO.out
    obtain ⟨y0, y1, -, -, -⟩ := q1
    have HBV := Lib.hid HBV
    by_cases hlt : k < sn
    · have hlt' : (k : Int) < sn := by omega
      obtain ⟨g, rfl, hg1, hg2⟩ := own_some HI.out.shp (show 0 < sn by omega)
      have hSk := HS.out k (by rw [LS.out]; exact hlt)
      have hlk : k < (ovr 3 k S).length := by rw [ovr_len _ (by rw [LS.out]; exact hk), LS.out]; exact hlt
      have d1 : wr.cell? ⟨g, k, none⟩ = some (.int .i64 (S.getD k 0)) := by
        have h := HI.out.shp.cellAt k (by simp only; omega)
        simp only at h
        rw [h, getD_map_int _ k hlk, ovr_get _ (by rw [LS.out]; exact hlt)]
      have d2 : wr.frozen? ⟨g, k, none⟩ = false := HI.out.shp.frozenAt k
      have HI2 : Hid (Hd.Is ⟨hb, some ⟨g, 0, none⟩, sn, aa, an, ovr 3 (k + 1) S, R⟩ w0.heap.size (wr.setCell ⟨g, k, none⟩ (.int .i64 3))) := by
        have h := HI.out.setS (g := g) (k := k) rfl 3
        simp only [ovr_set _ (show k < S.length by rw [LS.out]; exact hlt)] at h
        exact h
      have HO2 : Hid (Out (Hd.foot ⟨hb, some ⟨g, 0, none⟩, sn, aa, an, S, R⟩) W (wr.setCell ⟨g, k, none⟩ (.int .i64 3))) := HO.out.setCell (p := ⟨g, k, none⟩) (.inl (Or.inr (Or.inl rfl))) _
      by_cases hkt : k < tn
      · have hkt' : (k : Int) < tn := by omega
        rw [LT.out, if_pos hkt] at hSk
        obtain ⟨ob, fb, rfl, hcb⟩ := (IA.out.via HBV.out).shp.at (show 0 < tn by omega)
        have d3 := hcb k hkt
        simp only at d3
        rw [hSk] at d1
        obtain ⟨x, HX⟩ : ∃ z, Hid (t.getD k 0 = z) := ⟨_, rfl⟩
        rw [HX.out] at d1 d3
        have hb := beq_same x
        clear hcb hSk hlk hg1 hg2
        go_wp2
        go_roundw
        case rel => exact ⟨k + 1, by omega, by first | rfl | simp, by go_num, HI2, HO2⟩
        case measure => simp [RowKit.intOf]; omega
      · have hkt' : (tn : Int) ≤ k := by omega
        rw [LT.out, if_neg hkt] at hSk
        unfold mkS at hSk
        rw [hSk] at d1
        have hb := beq_same (wrap64 (-70000 - (k : Int)))
        clear hSk hlk hg1 hg2
        go_wp2
        go_roundw
        case rel => exact ⟨k + 1, by omega, by first | rfl | simp, by go_num, HI2, HO2⟩
        case measure => simp [RowKit.intOf]; omega
    · have hge : (sn : Int) ≤ k := by omega
      obtain ⟨S2, HS2⟩ : ∃ z, Hid (ovr 3 k S = z) := ⟨_, rfl⟩
      rw [HS2.out] at HI
      have HI0 := HI
      have HO0 := HO
      clear hlt
      go_wp2_with fail
      go_loopw [5, 8] (fun o i wr => ∃ k : Nat, k ≤ an ∧ o = .bool true ∧ i = .int .i64 k ∧ Hid (Hd.Is ⟨hb, sa, sn, aa, an, S2, ovr 99 k R⟩ w0.heap.size wr) ∧ Hid (Out (Hd.foot ⟨hb, sa, sn, aa, an, S, R⟩) W wr)) (fun _ i _ => an - (RowKit.intOf i).toNat)
      case atStart => exact ⟨0, Nat.zero_le _, rfl, rfl, HI0, HO0⟩
      case round =>
        clear HI HO HI0 HO0 HBV hk hge HS2
        obtain ⟨k, hk, rfl, rfl, HI, HO⟩ := hrel
        clear x0 x1 x2 x3 x4 y0 y1
        have q0 := HI.out.box
        simp only at q0
        obtain ⟨x0, x1, x2, x3, x4⟩ := q0
        obtain ⟨HBV, q1⟩ := HZ.out wr HO.out
        obtain ⟨y0, y1, -, -, -⟩ := q1
        have HBV := Lib.hid HBV
        by_cases hlt : k < an
        · have hlt' : (k : Int) < an := by omega
          obtain ⟨g, rfl, hg1, hg2⟩ := own_some HI.out.ats (show 0 < an by omega)
          have hSk := HA.out k (by rw [LR.out]; exact hlt)
          have hlk : k < (ovr 99 k R).length := by rw [ovr_len _ (by rw [LR.out]; exact hk), LR.out]; exact hlt
          have d1 : wr.cell? ⟨g, k, none⟩ = some (.int .i64 (R.getD k 0)) := by
            have h := HI.out.ats.cellAt k (by simp only; omega)
            simp only at h
            rw [h, getD_map_int _ k hlk, ovr_get _ (by rw [LR.out]; exact hlt)]
          have d2 : wr.frozen? ⟨g, k, none⟩ = false := HI.out.ats.frozenAt k
          have HI2 : Hid (Hd.Is ⟨hb, sa, sn, some ⟨g, 0, none⟩, an, S2, ovr 99 (k + 1) R⟩ w0.heap.size (wr.setCell ⟨g, k, none⟩ (.int .i64 99))) := by
            have h := HI.out.setA (g := g) (k := k) rfl 99
            simp only [ovr_set _ (show k < R.length by rw [LR.out]; exact hlt)] at h
            exact h
          have HO2 : Hid (Out (Hd.foot ⟨hb, sa, sn, some ⟨g, 0, none⟩, an, S, R⟩) W (wr.setCell ⟨g, k, none⟩ (.int .i64 99))) := HO.out.setCell (p := ⟨g, k, none⟩) (.inl (Or.inr (Or.inr rfl))) _
          by_cases hkt : k < bn
          · have hkt' : (k : Int) < bn := by omega
            rw [LB.out, if_pos hkt] at hSk
            obtain ⟨ob, fb, rfl, hcb⟩ := (IA.out.via HBV.out).ats.at (show 0 < bn by omega)
            have d3 := hcb k hkt
            simp only at d3
            rw [hSk] at d1
            obtain ⟨x, HX⟩ : ∃ z, Hid (b.getD k 0 = z) := ⟨_, rfl⟩
            rw [HX.out] at d1 d3
            have hb := beq_same x
            clear hcb hSk hlk hg1 hg2
            go_wp2
            go_roundw
            case rel => exact ⟨k + 1, by omega, by first | rfl | simp, by go_num, HI2, HO2⟩
            case measure => simp [RowKit.intOf]; omega
          · have hkt' : (bn : Int) ≤ k := by omega
            rw [LB.out, if_neg hkt] at hSk
            unfold mkA at hSk
            rw [hSk] at d1
            have hb := beq_same (wrap64 (-80000 - (k : Int)))
            clear hSk hlk hg1 hg2
            go_wp2
            go_roundw
            case rel => exact ⟨k + 1, by omega, by first | rfl | simp, by go_num, HI2, HO2⟩
            case measure => simp [RowKit.intOf]; omega
        · have hge : (an : Int) ≤ k := by omega
          have HE : Hid (KeptP ⟨hb, sa, sn, aa, an, S, R⟩ w0.heap.size w (.returned (.bool true)) wr) :=
            ⟨rfl, (Out.of HWB.out).trans HO.out (fun _ _ h => h), ⟨hb, sa, sn, aa, an, S2, ovr 99 k R⟩, rfl, fun k h => h, HI.out⟩
          clear hlt
          go_wp2
          go_ret
          exact HE.out
def shB (A : Ar) : Bool := decide (A.sn ≤ 5000) && decide (A.an ≤ 5000)
set_option maxRecDepth 100000 in
set_option maxHeartbeats 400000 in
theorem short_any {w : World} {A : Ar} (hA : A.Is w) : Calls Try.prog 22 #[A.v] w (RetB w (.bool (shB A))) := by
  obtain ⟨ta, tn, tc, ba, bn, bc, t, b⟩ := A
  simp only [Ar.v]
  by_cases h1 : tn ≤ 5000
  · by_cases h2 : bn ≤ 5000
    · have e : shB ⟨ta, tn, tc, ba, bn, bc, t, b⟩ = true := by simp [shB, h1, h2]
      have h1' : (tn : Int) ≤ 5000 := by omega
      have h2' : (bn : Int) ≤ 5000 := by omega
      rw [e]
      clear hA e
      go_enter Try.func22, Try.ntmps22
      go_wp2
      go_ret
      exact RetB.mk rfl (abal _ _)
    · have e : shB ⟨ta, tn, tc, ba, bn, bc, t, b⟩ = false := by simp [shB, h1, h2]
      have h1' : (tn : Int) ≤ 5000 := by omega
      have h2' : (5000 : Int) < bn := by omega
      rw [e]
      clear hA e
      go_enter Try.func22, Try.ntmps22
      go_wp2
      go_ret
      exact RetB.mk (boolv (decide_eq_false (by omega))) (abal _ _)
  · have e : shB ⟨ta, tn, tc, ba, bn, bc, t, b⟩ = false := by simp [shB, h1]
    have h1' : (5000 : Int) < tn := by omega
    rw [e]
    clear hA e
    go_enter Try.func22, Try.ntmps22
    go_wp2
    go_ret
    exact RetB.mk rfl (abal _ _)
end Go.Proofs.Ytdedbfbkakofgaa

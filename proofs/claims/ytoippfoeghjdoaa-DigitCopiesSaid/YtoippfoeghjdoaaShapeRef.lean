/- Contracts of the document's May, Count, At (abacusref2). -/
import Derived.Test.YtoippfoeghjdoaaShapeCover
namespace Go.Proofs.Ytoippfoeghjdoaa
open Go.RowKit Go.Lib
set_option linter.unusedVariables false
set_option linter.unusedSimpArgs false
attribute [local go_sem] alloc_drewN setCell_drewN

theorem mayE_of {s : List Int} (h1 : ∀ i, i < s.length → 0 ≤ s.getD i 0) : mayE s = if 8 < s.length then 17 else if 4096 < pm s then 17 else 0 := by
  unfold mayE
  rw [if_neg]
  rw [any_neg_iff]
  rintro ⟨i, hi, h⟩
  have := h1 i hi; omega
theorem mayE_neg' {s : List Int} {i : Nat} (hi : i < s.length) (h : s.getD i 0 < 0) : mayE s = 1 := by
  unfold mayE; rw [if_pos (any_neg_iff.2 ⟨i, hi, h⟩)]
set_option maxRecDepth 100000 in
set_option maxHeartbeats 800000 in
theorem rmay_any {w : World} {ao : Option Addr} {n c : Nat} {s : List Int} (h : Ls w ao n c s) :
    Calls Try.prog 82 #[.slice ao n c] w (RetS w (.int .i64 (mayE s))) := by
  have hl := h.len
  have hbig := h.big
  obtain ⟨e, HE⟩ : ∃ e, Hid (mayE s = e) := ⟨_, rfl⟩
  rw [HE.out]
  have H := Lib.hid h
  have HL := Lib.hid hl
  clear h hl
  go_enter Try.func82, Try.ntmps82
  go_wp2_with fail
  go_loopw [3] (fun i wr => ∃ k : Nat, k ≤ n ∧ i = .int .i64 k ∧ Hid (∀ j, j < k → 0 ≤ s.getD j 0) ∧ wr = w) (fun i _ => n - (RowKit.intOf i).toNat)
  case atStart => exact ⟨0, Nat.zero_le _, rfl, fun j hj => absurd hj (by omega), rfl⟩
  case round =>
    obtain ⟨k, hk, rfl, hs, hwr⟩ := hrel
    have hwr' := hwr.symm
    subst hwr'
    by_cases hlt : k < n
    · have hlt' : (k : Int) < n := by omega
      obtain ⟨b1, o1, rfl, hc1⟩ := H.out.at (by omega)
      have d1 := hc1 k hlt
      clear hc1
      obtain ⟨x, HX⟩ : ∃ x, Hid (s.getD k 0 = x) := ⟨_, rfl⟩
      rw [HX.out] at d1
      by_cases hx : x < 0
      · have HF : Hid (e = 1) := by show _ = _; rw [← HE.out]; exact mayE_neg' (by rw [HL.out]; exact hlt) (by rw [HX.out]; exact hx)
        go_wp2
        go_ret
        exact RetS.mk (intv HF.out.symm)
      · have hs' : Hid (∀ j, j < k + 1 → 0 ≤ s.getD j 0) := by
          intro j hj
          by_cases e : j = k
          · subst e; rw [HX.out]; omega
          · exact hs.out j (by omega)
        go_wp2
        go_roundw
        case rel => exact ⟨k + 1, by omega, by go_num, hs', by first | rfl | trivial⟩
        case measure => simp [RowKit.intOf]; omega
    · obtain rfl : k = n := by omega
      have hge : (k : Int) ≤ k := Int.le_refl _
      have hof := mayE_of (s := s) (fun i hi => hs.out i (by rw [← HL.out]; exact hi))
      rw [HE.out, HL.out] at hof
      by_cases h8 : 8 < k
      · rw [if_pos h8] at hof
        have h8' : (8 : Int) < k := by omega
        subst hof
        clear hs
        go_wp2
        go_ret
        exact RetS.mk rfl
      rw [if_neg h8] at hof
      have h8' : ¬ (8 : Int) < k := by omega
      have HOF := Lib.hid hof
      clear hof
      go_wp2_with fail
      go_loopw [4, 5] (fun v i wr => ∃ (q : Nat) (L : Int), q ≤ k ∧ i = .int .i64 q ∧ v = .int .i64 L ∧ Hid (4096 / pm (s.take q) = L) ∧ Hid (pm (s.take q) ≤ 4096) ∧ wr = w) (fun _ i _ => k - (RowKit.intOf i).toNat)
      case atStart => exact ⟨0, 4096, Nat.zero_le _, rfl, rfl, by show _ = _; simp [pm], by show _ ≤ _; simp [pm], rfl⟩
      case round =>
        obtain ⟨q, L, hq, rfl, rfl, HQ, HP, hwr⟩ := hrel
        have hwr' := hwr.symm
        subst hwr'
        by_cases hlt : q < k
        · have hlt' : (q : Int) < k := by omega
          obtain ⟨b1, o1, rfl, hc1⟩ := H.out.at (by omega)
          have d1 := hc1 q hlt
          clear hc1
          have hx0 := hs.out q hlt
          have hx2 := (H.out.rng q).2
          have hp1 := (pm_up s q).1
          have hL1 : 1 ≤ L := by rw [← HQ.out]; have := HP.out; exact (Int.le_ediv_iff_mul_le (by omega)).2 (by omega)
          have hL2 : L ≤ 4096 := by rw [← HQ.out]; exact Int.ediv_le_self _ (by omega)
          have hsn := pm_snoc (s := s) (k := q) (by rw [HL.out]; exact hlt)
          have hall := pm_all s (q + 1)
          obtain ⟨x, HX⟩ : ∃ x, Hid (s.getD q 0 = x) := ⟨_, rfl⟩
          rw [HX.out] at d1 hx0 hx2 hsn
          by_cases hx : 0 < x
          · have m1 : max x 1 = x := by omega
            rw [m1] at hsn
            have hd := Int.ediv_ediv (x := 4096) (y := pm (s.take q)) (z := x)
            rw [if_neg (by omega), Int.sub_zero, HQ.out, ← hsn] at hd
            have m2 : L.tdiv x = L / x := Int.tdiv_eq_ediv_of_nonneg (by omega)
            have m3 : 0 ≤ L / x ∧ L / x ≤ L := ⟨Int.ediv_nonneg (by omega) (by omega), Int.ediv_le_self _ (by omega)⟩
            obtain ⟨Q2, HQ2⟩ : ∃ Q2, Hid (L / x = Q2) := ⟨_, rfl⟩
            rw [HQ2.out] at m2 m3 hd
            have m6 : IntKind.i64.wrap Q2 = Q2 := IntWalk.i64_in _ (by omega)
            have m7 : (x == 0) = false := by simp; omega
            have m8 : ¬ x = 0 := by omega
            have hp2 := (pm_up s (q + 1)).1
            by_cases hz : Q2 = 0
            · have HF : Hid (e = 17) := by
                show _ = _
                rw [HOF.out, if_pos]
                rw [hz] at hd
                by_cases hg : pm (s.take (q + 1)) ≤ 4096
                · exfalso
                  have h1 : 1 ≤ 4096 / pm (s.take (q + 1)) := (Int.le_ediv_iff_mul_le (by omega)).2 (by omega)
                  omega
                · omega
              subst hz
              clear hd hsn hall hp1 hp2 hL1 hL2 hx0 hx2 m3 m1
              go_wp2
              go_ret
              exact RetS.mk (intv HF.out.symm)
            · have hz' : (Q2 == 0) = false := by simpa using hz
              have HP2 : Hid (pm (s.take (q + 1)) ≤ 4096) := by
                show _ ≤ _
                by_cases hg : pm (s.take (q + 1)) ≤ 4096
                · exact hg
                · exfalso; apply hz; rw [hd]; exact Int.ediv_eq_zero_of_lt (by omega) (by omega)
              have HQ3 : Hid (4096 / pm (s.take (q + 1)) = Q2) := hd.symm
              clear hd hsn hall hp1 hp2 hL1 hL2 hx0 hx2 m3 m1
              go_wp2
              go_roundw
              case rel => exact ⟨q + 1, Q2, by omega, by go_num, rfl, HQ3, HP2, by first | rfl | trivial⟩
              case measure => simp [RowKit.intOf]; omega
          · have m1 : max x 1 = 1 := by omega
            rw [m1, Int.mul_one] at hsn
            have HP2 : Hid (pm (s.take (q + 1)) ≤ 4096) := by show _ ≤ _; rw [hsn]; exact HP.out
            have HQ3 : Hid (4096 / pm (s.take (q + 1)) = L) := by show _ = _; rw [hsn]; exact HQ.out
            have hz' : (L == 0) = false := by simp; omega
            clear hsn hall hp1 hx0 hx2 m1
            go_wp2
            go_roundw
            case rel => exact ⟨q + 1, L, by omega, by go_num, rfl, HQ3, HP2, by first | rfl | trivial⟩
            case measure => simp [RowKit.intOf]; omega
        · obtain rfl : q = k := by omega
          have hge : (q : Int) ≤ q := Int.le_refl _
          have HF : Hid (e = 0) := by
            show _ = _
            have h1 := HP.out
            rw [List.take_of_length_le (by rw [HL.out]; omega)] at h1
            rw [HOF.out, if_neg (by omega)]
          go_wp2
          go_ret
          exact RetS.mk (intv HF.out.symm)
set_option maxHeartbeats 400000 in
theorem rcount_any {w : World} {ao : Option Addr} {n c : Nat} {s : List Int} (h : Ls w ao n c s) (hm : mayE s = 0) :
    Calls Try.prog 110 #[.slice ao n c] w (RetS w (.int .i64 (pr s))) := by
  obtain ⟨g1, g2, g3⟩ := mayE_zero hm
  have hl := h.len
  have hb : n ≤ 8 := by omega
  have H := Lib.hid h
  have HL := Lib.hid hl
  have HG1 := Lib.hid g1
  have HG3 := Lib.hid g3
  obtain ⟨R, HR⟩ : ∃ R, Hid (pr s = R) := ⟨_, rfl⟩
  rw [HR.out]
  clear h hl g1 g2 g3 hm
  go_enter Try.func110, Try.ntmps110
  go_wp2_with fail
  go_loopw [3, 4] (fun p i wr => ∃ (k : Nat) (P : Int), k ≤ n ∧ i = .int .i64 k ∧ p = .int .i64 P ∧ Hid (pr (s.take k) = P) ∧ wr = w) (fun _ i _ => n - (RowKit.intOf i).toNat)
  case atStart => exact ⟨0, 1, Nat.zero_le _, rfl, rfl, rfl, rfl⟩
  case round =>
    obtain ⟨k, P, hk, rfl, rfl, HP, hwr⟩ := hrel
    have hwr' := hwr.symm
    subst hwr'
    by_cases hlt : k < n
    · have hlt' : (k : Int) < n := by omega
      obtain ⟨b2, o2, rfl, hc2⟩ := H.out.at (by omega)
      have d2 := hc2 k hlt
      obtain ⟨y, HY⟩ : ∃ y, Hid (s.getD k 0 = y) := ⟨_, rfl⟩
      rw [HY.out] at d2
      have HP2 : Hid (pr (s.take (k + 1)) = P * y) := by show _ = _; rw [pr_snoc (by rw [HL.out]; exact hlt), HP.out, HY.out]
      have z1 : IntKind.i64.wrap (P * y) = P * y := by
        have h1 := pr_le s HG1.out (k + 1)
        have h2 := pm_all s (k + 1)
        have h3 := HG3.out
        rw [HP2.out] at h1
        exact IntWalk.i64_in _ (by omega)
      clear hc2
      go_wp2
      go_roundw
      case rel => exact ⟨k + 1, P * y, by omega, by go_num, rfl, HP2, by first | rfl | trivial⟩
      case measure => simp [RowKit.intOf]; omega
    · obtain rfl : k = n := by omega
      have hge : (k : Int) ≤ k := Int.le_refl _
      have HF : Hid (P = R) := by show _ = _; rw [← HR.out, ← HP.out, List.take_of_length_le (by rw [HL.out]; omega)]
      go_wp2
      go_ret
      exact RetS.mk (intv HF.out)
set_option maxRecDepth 100000 in
set_option maxHeartbeats 800000 in
theorem rat_ok {w : World} {ao : Option Addr} {n c : Nat} {s : List Int} (h : Ls w ao n c s) (p : Int) (hm : mayE s = 0) (hpp : 0 ≤ p ∧ p < pr s) :
    Calls Try.prog 84 #[.slice ao n c, .int .i64 p] w (MadeS w (ixL s p) 0) := by
  obtain ⟨g1, g2, g3⟩ := mayE_zero hm
  have hpb := pr_le s g1 s.length
  rw [List.take_length] at hpb
  have hlen := h.len
  have hn : n ≤ 1000 := by omega
  have hp : 0 ≤ p ∧ p ≤ 1000000 := by omega
  have hs := pos_all g1 (by omega)
  have CM := Lib.hid (rmay_any h)
  have CC := Lib.hid (rcount_any h hm)
  rw [hm] at CM
  obtain ⟨PR, HPR⟩ : ∃ P, Hid (pr s = P) := ⟨_, rfl⟩
  rw [HPR.out] at CC hpp
  have hp0 : 0 ≤ p := hpp.1
  have hpq : p < PR := hpp.2
  clear hpp g1 g2 g3 hpb hlen hm
  have hmk := fun w => mk_int n (by omega) w
  have hl := h.len
  have HO0 := Lib.hid (own_zeros w 3 n w.heap.size (by omega) (Nat.le_refl _))
  have H := Lib.hid h
  have HS := Lib.hid hs
  have HL := Lib.hid hl
  have z0 : IntKind.i64.wrap ((n : Int) - 1) = n - 1 := IntWalk.i64_in _ (by omega)
  clear h hs hl
  go_enter Try.func84, Try.ntmps84
  go_wp2_with fail
  refine CM.out.mono ?_; rintro e' w' ⟨rfl, hw'⟩
  have hw'' := hw'.symm
  subst hw''
  go_wp2_with fail
  refine CC.out.mono ?_; rintro e' w' ⟨rfl, hw'⟩
  have hw'' := hw'.symm
  subst hw''
  go_wp2_with fail
  go_loopw [1, 8] (fun q i wr => ∃ (k : Nat) (Q : Int), k ≤ n ∧ i = .int .i64 ((k : Int) - 1) ∧ q = .int .i64 Q ∧ Hid (p / pr (s.drop k) = Q) ∧ Hid (wr.ownsRow w.heap.size 3 1 (.slice (some ⟨w.heap.size, 0, none⟩) n n) n ((List.replicate k (0 : Int) ++ (ixL s p).drop k).map (Value.int .i64))) ∧ Hid (Below w.heap.size w wr)) (fun _ i _ => (RowKit.intOf i + 1).toNat)
  case atStart =>
    refine ⟨n, p, Nat.le_refl _, rfl, rfl, ?_, ?_, (Below.refl _ _).alloc (Nat.le_refl _) _⟩
    · show _ = _; rw [List.drop_of_length_le (by rw [HL.out]; omega)]; simp [pr]
    · rw [List.drop_of_length_le (by rw [ixL_len, HL.out]; omega), List.append_nil]; exact HO0
  case round =>
    obtain ⟨k, Q, hk, rfl, rfl, HQ, HO, HB⟩ := hrel
    by_cases h0 : 0 < k
    · obtain ⟨j, rfl⟩ : ∃ j, k = j + 1 := ⟨k - 1, by omega⟩
      have e0 : ((j + 1 : Nat) : Int) - 1 = j := by omega
      rw [e0]
      have hj : j < n := by omega
      have hj' : (j : Int) < n := by omega
      have hL := H.out.below HB.out (Nat.le_refl _)
      obtain ⟨b1, o1, rfl, hb1, hc1⟩ := H.out.mem (by omega)
      have d1 := (HB.out.cell (p := ⟨b1, o1 + j, none⟩) hb1).trans (hc1 j hj)
      have d4 : (wr.setCell ⟨w.heap.size, j, none⟩ (.int .i64 ((ixL s p).getD j 0))).cell? ⟨b1, o1 + j, none⟩ = some (.int .i64 (s.getD j 0)) := by
        rw [World.cell?_setCell_far _ _ _ _ (by dsimp only; omega)]; exact d1
      have d2 : ∃ v, wr.cell? ⟨w.heap.size, j, none⟩ = some v := by
        rw [HO.out.cellAt j (by omega)]
        exact ⟨_, List.getElem?_eq_getElem (by have := HO.out.1; rw [this]; omega)⟩
      obtain ⟨v0, d2⟩ := d2
      have d3 := HO.out.frozenAt j
      have hx1 := HS.out j (by rw [HL.out]; omega)
      have hx2 := (hL.rng j).2
      have hq1 : 0 ≤ Q := by rw [← HQ.out]; exact Int.ediv_nonneg hp.1 (by have := pr_drop_pos HS.out (j + 1); omega)
      have hq2 : Q ≤ 1000000 := by rw [← HQ.out]; exact Int.le_trans (Int.ediv_le_self _ hp.1) hp.2
      have hix := ixL_at (s := s) (p := p) (k := j) (by rw [HL.out]; omega)
      rw [HQ.out] at hix
      have hq3 : p / pr (s.drop j) = Q / s.getD j 0 := by
        rw [pr_drop (by rw [HL.out]; omega), Int.mul_comm]
        have hd := Int.ediv_ediv (x := p) (y := pr (s.drop (j + 1))) (z := s.getD j 0)
        rw [if_neg (by have := pr_drop_pos HS.out (j + 1); omega), Int.sub_zero, HQ.out] at hd
        exact hd.symm
      have HO2 := Lib.hid ((HO.out.stored j (.int .i64 ((ixL s p).getD j 0))).1)
      have hset := set_ix (L := ixL s p) (k := j) (by rw [ixL_len, HL.out]; omega)
      rw [← List.map_set, hset] at HO2
      obtain ⟨x, HX⟩ : ∃ x, Hid (s.getD j 0 = x) := ⟨_, rfl⟩
      obtain ⟨y, HY⟩ : ∃ y, Hid ((ixL s p).getD j 0 = y) := ⟨_, rfl⟩
      rw [HX.out] at d1 d4 hx1 hx2 hix hq3
      rw [HY.out] at hix HO2 d4
      have m1 : Q.tmod x = y := by rw [hix, Int.tmod_eq_emod_of_nonneg hq1]
      have m2 : Q.tdiv x = Q / x := Int.tdiv_eq_ediv_of_nonneg hq1
      have m3 : 0 ≤ Q / x ∧ Q / x ≤ Q := ⟨Int.ediv_nonneg hq1 (by omega), Int.ediv_le_self _ hq1⟩
      have m4 : 0 ≤ y ∧ y < x := by rw [hix]; exact ⟨Int.emod_nonneg _ (by omega), Int.emod_lt_of_pos _ (by omega)⟩
      obtain ⟨Q2, HQ2⟩ : ∃ Q2, Hid (Q / x = Q2) := ⟨_, rfl⟩
      rw [HQ2.out] at m2 m3 hq3
      have HQ3 := Lib.hid hq3
      have m5 : IntKind.i64.wrap y = y := IntWalk.i64_in _ (by omega)
      have m6 : IntKind.i64.wrap Q2 = Q2 := IntWalk.i64_in _ (by omega)
      have m7 : (x == 0) = false := by simp; omega
      have m8 : ¬ x = 0 := by omega
      have m9 : IntKind.i64.wrap ((j : Int) - 1) = j - 1 := IntWalk.i64_in _ (by omega)
      have HB2 := Lib.hid (HB.out.setCell (show w.heap.size ≤ (⟨w.heap.size, j, none⟩ : Addr).block from Nat.le_refl _) (.int .i64 y))
      clear hL hc1 hb1 hx1 hx2 hq1 hq2 hix hq3 hset m3 m4 HX HY
      go_wp2
      go_roundw
      case rel => exact ⟨j, Q2, by omega, rfl, rfl, HQ3, HO2, HB2⟩
      case measure => simp [RowKit.intOf]
    · obtain rfl : k = 0 := by omega
      have hout := HO.out
      simp only [List.replicate_zero, List.nil_append, List.drop_zero] at hout
      have HF : Hid (MadeS w (ixL s p) 0 (.returned (.tuple #[.slice (some ⟨w.heap.size, 0, none⟩) n n, .int .i64 0])) wr) := by
        refine ⟨_, _, _, rfl, ls_of_own hout (by omega) (fun i => ?_), hout, HB.out⟩
        by_cases hi : i < s.length
        · have h1 := ixL_rng (p := p) HS.out i hi
          have h2 := (H.out.rng i).2
          omega
        · rw [show (ixL s p).getD i 0 = 0 by simp [List.getD, ixL, hi]]; omega
      clear hout
      go_wp2
      go_ret2
      exact HF.out
set_option maxRecDepth 100000 in
set_option maxHeartbeats 400000 in
theorem rat_any {w : World} {ao : Option Addr} {n c : Nat} {s : List Int} (h : Ls w ao n c s) (p : Int) :
    Calls Try.prog 84 #[.slice ao n c, .int .i64 p] w (MadeS w (atL s p) (atE s p)) := by
  have CZ := Lib.hid (rmay_any h)
  by_cases hm : ¬ mayE s = 0
  · rw [show atL s p = [] by simp [atL, hm], show atE s p = mayE s by simp [atE, hm]]
    obtain ⟨e, he⟩ : ∃ v, mayE s = v := ⟨_, rfl⟩
    rw [he] at CZ hm ⊢
    have hm' : (e != 0) = true := by simpa using hm
    clear h he hm
    go_enter Try.func84, Try.ntmps84
    go_wp2_with fail
    refine CZ.out.mono ?_; rintro e' w' ⟨rfl, rfl⟩
    go_wp2
    go_ret2
    exact MadeS.nil _ (Below.refl _ _)
  have hm : mayE s = 0 := by simpa using hm
  have hz : szE s = pr s := by simp [szE, hm]
  rw [hm] at CZ
  have CC := Lib.hid (rcount_any h hm)
  obtain ⟨g1, g2, g3⟩ := mayE_zero hm
  have hpb := pr_le s g1 s.length
  rw [List.take_length] at hpb
  have hlen := h.len
  by_cases hp : 0 ≤ p ∧ p < pr s
  · rw [show atL s p = ixL s p by simp [atL, hm, hp], show atE s p = 0 by simp [atE, hm, hp]]
    exact rat_ok h p hm hp
  · rw [show atL s p = [] by simp [atL, hp], show atE s p = 13 by simp [atE, hm, hp]]
    obtain ⟨P, HP⟩ : ∃ P, Hid (pr s = P) := ⟨_, rfl⟩
    rw [HP.out] at CC hp
    clear h hm hz g1 g2 g3 hpb hlen
    by_cases h0 : p < 0
    · go_enter Try.func84, Try.ntmps84
      go_wp2_with fail
      refine CZ.out.mono ?_; rintro e' w' ⟨rfl, rfl⟩
      go_wp2
      go_ret2
      exact MadeS.nil _ (Below.refl _ _)
    · have h1 : P ≤ p := by omega
      go_enter Try.func84, Try.ntmps84
      go_wp2_with fail
      refine CZ.out.mono ?_; rintro e' w' ⟨rfl, rfl⟩
      go_wp2_with fail
      refine CC.out.mono ?_; rintro e' w2 ⟨rfl, rfl⟩
      go_wp2
      go_ret2
      exact MadeS.nil _ (Below.refl _ _)
end Go.Proofs.Ytoippfoeghjdoaa

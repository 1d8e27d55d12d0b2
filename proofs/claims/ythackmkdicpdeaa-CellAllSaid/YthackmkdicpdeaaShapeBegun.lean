/- Contracts of the document's May, Count, At (abacusref2). Contracts of shape.All, what it hands back, and abacuslaw2.walks. What every statement of layer 2 asks ahead: begun. -/
import Derived.Test.YthackmkdicpdeaaShapeCover
import Derived.Test.YthackmkdicpdeaaMerge
namespace Go.Proofs.Ythackmkdicpdeaa
open Go.RowKit Go.Lib
set_option linter.unusedVariables false
set_option linter.unusedSimpArgs false
attribute [local go_sem] alloc_drewN setCell_drewN

theorem mayE_of {s : List Int} (h1 : ∀ i, i < s.length → 0 ≤ s.getD i 0) : mayE s = if 8 < s.length then 17 else if 4096 < pm s then 17 else 0 := by
  unfold mayE
  rw [if_neg]
  rw [any_neg_iff]
  rintro ⟨i, hi, h⟩
  have := h1 i hi; omega
theorem mayE_neg' {s : List Int} {i : Nat} (hi : i < s.length) (h : s.getD i 0 < 0) : mayE s = 1 := by
  unfold mayE; rw [if_pos (any_neg_iff.2 ⟨i, hi, h⟩)]
set_option maxRecDepth 100000 in
set_option maxHeartbeats 800000 in
theorem rmay_any {w : World} {ao : Option Addr} {n c : Nat} {s : List Int} (h : Ls w ao n c s) :
    Calls Try.prog 77 #[.slice ao n c] w (RetS w (.int .i64 (mayE s))) := by
  have hl := h.len
  have hbig := h.big
  obtain ⟨e, HE⟩ : ∃ e, Hid (mayE s = e) := ⟨_, rfl⟩
  rw [HE.out]
  have H := Lib.hid h
  have HL := Lib.hid hl
  clear h hl
  go_enter Try.func77, Try.ntmps77
  go_wp2_with fail
  go_loopw [3] (fun i wr => ∃ k : Nat, k ≤ n ∧ i = .int .i64 k ∧ Hid (∀ j, j < k → 0 ≤ s.getD j 0) ∧ wr = w) (fun i _ => n - (RowKit.intOf i).toNat)
  case atStart => exact ⟨0, Nat.zero_le _, rfl, fun j hj => absurd hj (by omega), rfl⟩
  case round =>
    obtain ⟨k, hk, rfl, hs, hwr⟩ := hrel
    have hwr' := hwr.symm
    subst hwr'
    by_cases hlt : k < n
    · have hlt' : (k : Int) < n := by omega
      obtain ⟨b1, o1, rfl, hc1⟩ := H.out.at (by omega)
      have d1 := hc1 k hlt
      clear hc1
      obtain ⟨x, HX⟩ : ∃ x, Hid (s.getD k 0 = x) := ⟨_, rfl⟩
      rw [HX.out] at d1
      by_cases hx : x < 0
      · have HF : Hid (e = 1) := by show _ = _; rw [← HE.out]; exact mayE_neg' (by rw [HL.out]; exact hlt) (by rw [HX.out]; exact hx)
        go_wp2
        go_ret
        exact RetS.mk (intv HF.out.symm)
      · have hs' : Hid (∀ j, j < k + 1 → 0 ≤ s.getD j 0) := by
          intro j hj
          by_cases e : j = k
          · subst e; rw [HX.out]; omega
          · exact hs.out j (by omega)
        go_wp2
        go_roundw
        case rel => exact ⟨k + 1, by omega, by go_num, hs', by first | rfl | trivial⟩
        case measure => simp [RowKit.intOf]; omega
    · obtain rfl : k = n := by omega
      have hge : (k : Int) ≤ k := Int.le_refl _
      have hof := mayE_of (s := s) (fun i hi => hs.out i (by rw [← HL.out]; exact hi))
      rw [HE.out, HL.out] at hof
      by_cases h8 : 8 < k
      · rw [if_pos h8] at hof
        have h8' : (8 : Int) < k := by omega
        subst hof
        clear hs
        go_wp2
        go_ret
        exact RetS.mk rfl
      rw [if_neg h8] at hof
      have h8' : ¬ (8 : Int) < k := by omega
      have HOF := Lib.hid hof
      clear hof
      go_wp2_with fail
      go_loopw [4, 5] (fun v i wr => ∃ (q : Nat) (L : Int), q ≤ k ∧ i = .int .i64 q ∧ v = .int .i64 L ∧ Hid (4096 / pm (s.take q) = L) ∧ Hid (pm (s.take q) ≤ 4096) ∧ wr = w) (fun _ i _ => k - (RowKit.intOf i).toNat)
      case atStart => exact ⟨0, 4096, Nat.zero_le _, rfl, rfl, by show _ = _; simp [pm], by show _ ≤ _; simp [pm], rfl⟩
      case round =>
        obtain ⟨q, L, hq, rfl, rfl, HQ, HP, hwr⟩ := hrel
        have hwr' := hwr.symm
        subst hwr'
        by_cases hlt : q < k
        · have hlt' : (q : Int) < k := by omega
          obtain ⟨b1, o1, rfl, hc1⟩ := H.out.at (by omega)
          have d1 := hc1 q hlt
          clear hc1
          have hx0 := hs.out q hlt
          have hx2 := (H.out.rng q).2
          have hp1 := (pm_up s q).1
          have hL1 : 1 ≤ L := by rw [← HQ.out]; have := HP.out; exact (Int.le_ediv_iff_mul_le (by omega)).2 (by omega)
          have hL2 : L ≤ 4096 := by rw [← HQ.out]; exact Int.ediv_le_self _ (by omega)
          have hsn := pm_snoc (s := s) (k := q) (by rw [HL.out]; exact hlt)
          have hall := pm_all s (q + 1)
          obtain ⟨x, HX⟩ : ∃ x, Hid (s.getD q 0 = x) := ⟨_, rfl⟩
          rw [HX.out] at d1 hx0 hx2 hsn
          by_cases hx : 0 < x
          · have m1 : max x 1 = x := by omega
            rw [m1] at hsn
            have hd := Int.ediv_ediv (x := 4096) (y := pm (s.take q)) (z := x)
            rw [if_neg (by omega), Int.sub_zero, HQ.out, ← hsn] at hd
            have m2 : L.tdiv x = L / x := Int.tdiv_eq_ediv_of_nonneg (by omega)
            have m3 : 0 ≤ L / x ∧ L / x ≤ L := ⟨Int.ediv_nonneg (by omega) (by omega), Int.ediv_le_self _ (by omega)⟩
            obtain ⟨Q2, HQ2⟩ : ∃ Q2, Hid (L / x = Q2) := ⟨_, rfl⟩
            rw [HQ2.out] at m2 m3 hd
            have m6 : IntKind.i64.wrap Q2 = Q2 := IntWalk.i64_in _ (by omega)
            have m7 : (x == 0) = false := by simp; omega
            have m8 : ¬ x = 0 := by omega
            have hp2 := (pm_up s (q + 1)).1
            by_cases hz : Q2 = 0
            · have HF : Hid (e = 17) := by
                show _ = _
                rw [HOF.out, if_pos]
                rw [hz] at hd
                by_cases hg : pm (s.take (q + 1)) ≤ 4096
                · exfalso
                  have h1 : 1 ≤ 4096 / pm (s.take (q + 1)) := (Int.le_ediv_iff_mul_le (by omega)).2 (by omega)
                  omega
                · omega
              subst hz
              clear hd hsn hall hp1 hp2 hL1 hL2 hx0 hx2 m3 m1
              go_wp2
              go_ret
              exact RetS.mk (intv HF.out.symm)
            · have hz' : (Q2 == 0) = false := by simpa using hz
              have HP2 : Hid (pm (s.take (q + 1)) ≤ 4096) := by
                show _ ≤ _
                by_cases hg : pm (s.take (q + 1)) ≤ 4096
                · exact hg
                · exfalso; apply hz; rw [hd]; exact Int.ediv_eq_zero_of_lt (by omega) (by omega)
              have HQ3 : Hid (4096 / pm (s.take (q + 1)) = Q2) := hd.symm
              clear hd hsn hall hp1 hp2 hL1 hL2 hx0 hx2 m3 m1
              go_wp2
              go_roundw
              case rel => exact ⟨q + 1, Q2, by omega, by go_num, rfl, HQ3, HP2, by first | rfl | trivial⟩
              case measure => simp [RowKit.intOf]; omega
          · have m1 : max x 1 = 1 := by omega
            rw [m1, Int.mul_one] at hsn
            have HP2 : Hid (pm (s.take (q + 1)) ≤ 4096) := by show _ ≤ _; rw [hsn]; exact HP.out
            have HQ3 : Hid (4096 / pm (s.take (q + 1)) = L) := by show _ = _; rw [hsn]; exact HQ.out
            have hz' : (L == 0) = false := by simp; omega
            clear hsn hall hp1 hx0 hx2 m1
            go_wp2
            go_roundw
            case rel => exact ⟨q + 1, L, by omega, by go_num, rfl, HQ3, HP2, by first | rfl | trivial⟩
            case measure => simp [RowKit.intOf]; omega
        · obtain rfl : q = k := by omega
          have hge : (q : Int) ≤ q := Int.le_refl _
          have HF : Hid (e = 0) := by
            show _ = _
            have h1 := HP.out
            rw [List.take_of_length_le (by rw [HL.out]; omega)] at h1
            rw [HOF.out, if_neg (by omega)]
          go_wp2
          go_ret
          exact RetS.mk (intv HF.out.symm)
set_option maxHeartbeats 400000 in
theorem rcount_any {w : World} {ao : Option Addr} {n c : Nat} {s : List Int} (h : Ls w ao n c s) (hm : mayE s = 0) :
    Calls Try.prog 74 #[.slice ao n c] w (RetS w (.int .i64 (pr s))) := by
  obtain ⟨g1, g2, g3⟩ := mayE_zero hm
  have hl := h.len
  have hb : n ≤ 8 := by omega
  have H := Lib.hid h
  have HL := Lib.hid hl
  have HG1 := Lib.hid g1
  have HG3 := Lib.hid g3
  obtain ⟨R, HR⟩ : ∃ R, Hid (pr s = R) := ⟨_, rfl⟩
  rw [HR.out]
  clear h hl g1 g2 g3 hm
  go_enter Try.func74, Try.ntmps74
  go_wp2_with fail
  go_loopw [3, 4] (fun p i wr => ∃ (k : Nat) (P : Int), k ≤ n ∧ i = .int .i64 k ∧ p = .int .i64 P ∧ Hid (pr (s.take k) = P) ∧ wr = w) (fun _ i _ => n - (RowKit.intOf i).toNat)
  case atStart => exact ⟨0, 1, Nat.zero_le _, rfl, rfl, rfl, rfl⟩
  case round =>
    obtain ⟨k, P, hk, rfl, rfl, HP, hwr⟩ := hrel
    have hwr' := hwr.symm
    subst hwr'
    by_cases hlt : k < n
    · have hlt' : (k : Int) < n := by omega
      obtain ⟨b2, o2, rfl, hc2⟩ := H.out.at (by omega)
      have d2 := hc2 k hlt
      obtain ⟨y, HY⟩ : ∃ y, Hid (s.getD k 0 = y) := ⟨_, rfl⟩
      rw [HY.out] at d2
      have HP2 : Hid (pr (s.take (k + 1)) = P * y) := by show _ = _; rw [pr_snoc (by rw [HL.out]; exact hlt), HP.out, HY.out]
      have z1 : IntKind.i64.wrap (P * y) = P * y := by
        have h1 := pr_le s HG1.out (k + 1)
        have h2 := pm_all s (k + 1)
        have h3 := HG3.out
        rw [HP2.out] at h1
        exact IntWalk.i64_in _ (by omega)
      clear hc2
      go_wp2
      go_roundw
      case rel => exact ⟨k + 1, P * y, by omega, by go_num, rfl, HP2, by first | rfl | trivial⟩
      case measure => simp [RowKit.intOf]; omega
    · obtain rfl : k = n := by omega
      have hge : (k : Int) ≤ k := Int.le_refl _
      have HF : Hid (P = R) := by show _ = _; rw [← HR.out, ← HP.out, List.take_of_length_le (by rw [HL.out]; omega)]
      go_wp2
      go_ret
      exact RetS.mk (intv HF.out)
set_option maxRecDepth 100000 in
set_option maxHeartbeats 800000 in
theorem rat_ok {w : World} {ao : Option Addr} {n c : Nat} {s : List Int} (h : Ls w ao n c s) (p : Int) (hm : mayE s = 0) (hpp : 0 ≤ p ∧ p < pr s) :
    Calls Try.prog 78 #[.slice ao n c, .int .i64 p] w (MadeS w (ixL s p) 0) := by
  obtain ⟨g1, g2, g3⟩ := mayE_zero hm
  have hpb := pr_le s g1 s.length
  rw [List.take_length] at hpb
  have hlen := h.len
  have hn : n ≤ 1000 := by omega
  have hp : 0 ≤ p ∧ p ≤ 1000000 := by omega
  have hs := pos_all g1 (by omega)
  have CM := Lib.hid (rmay_any h)
  have CC := Lib.hid (rcount_any h hm)
  rw [hm] at CM
  obtain ⟨PR, HPR⟩ : ∃ P, Hid (pr s = P) := ⟨_, rfl⟩
  rw [HPR.out] at CC hpp
  have hp0 : 0 ≤ p := hpp.1
  have hpq : p < PR := hpp.2
  clear hpp g1 g2 g3 hpb hlen hm
  have hmk := fun w => mk_int n (by omega) w
  have hl := h.len
  have HO0 := Lib.hid (own_zeros w 3 n w.heap.size (by omega) (Nat.le_refl _))
  have H := Lib.hid h
  have HS := Lib.hid hs
  have HL := Lib.hid hl
  have z0 : IntKind.i64.wrap ((n : Int) - 1) = n - 1 := IntWalk.i64_in _ (by omega)
  clear h hs hl
  go_enter Try.func78, Try.ntmps78
  go_wp2_with fail
  refine CM.out.mono ?_; rintro e' w' ⟨rfl, hw'⟩
  have hw'' := hw'.symm
  subst hw''
  go_wp2_with fail
  refine CC.out.mono ?_; rintro e' w' ⟨rfl, hw'⟩
  have hw'' := hw'.symm
  subst hw''
  go_wp2_with fail
  go_loopw [1, 8] (fun q i wr => ∃ (k : Nat) (Q : Int), k ≤ n ∧ i = .int .i64 ((k : Int) - 1) ∧ q = .int .i64 Q ∧ Hid (p / pr (s.drop k) = Q) ∧ Hid (wr.ownsRow w.heap.size 3 1 (.slice (some ⟨w.heap.size, 0, none⟩) n n) n ((List.replicate k (0 : Int) ++ (ixL s p).drop k).map (Value.int .i64))) ∧ Hid (Below w.heap.size w wr)) (fun _ i _ => (RowKit.intOf i + 1).toNat)
  case atStart =>
    refine ⟨n, p, Nat.le_refl _, rfl, rfl, ?_, ?_, (Below.refl _ _).alloc (Nat.le_refl _) _⟩
    · show _ = _; rw [List.drop_of_length_le (by rw [HL.out]; omega)]; simp [pr]
    · rw [List.drop_of_length_le (by rw [ixL_len, HL.out]; omega), List.append_nil]; exact HO0
  case round =>
    obtain ⟨k, Q, hk, rfl, rfl, HQ, HO, HB⟩ := hrel
    by_cases h0 : 0 < k
    · obtain ⟨j, rfl⟩ : ∃ j, k = j + 1 := ⟨k - 1, by omega⟩
      have e0 : ((j + 1 : Nat) : Int) - 1 = j := by omega
      rw [e0]
      have hj : j < n := by omega
      have hj' : (j : Int) < n := by omega
      have hL := H.out.below HB.out (Nat.le_refl _)
      obtain ⟨b1, o1, rfl, hb1, hc1⟩ := H.out.mem (by omega)
      have d1 := (HB.out.cell (p := ⟨b1, o1 + j, none⟩) hb1).trans (hc1 j hj)
      have d4 : (wr.setCell ⟨w.heap.size, j, none⟩ (.int .i64 ((ixL s p).getD j 0))).cell? ⟨b1, o1 + j, none⟩ = some (.int .i64 (s.getD j 0)) := by
        rw [World.cell?_setCell_far _ _ _ _ (by dsimp only; omega)]; exact d1
      have d2 : ∃ v, wr.cell? ⟨w.heap.size, j, none⟩ = some v := by
        rw [HO.out.cellAt j (by omega)]
        exact ⟨_, List.getElem?_eq_getElem (by have := HO.out.1; rw [this]; omega)⟩
      obtain ⟨v0, d2⟩ := d2
      have d3 := HO.out.frozenAt j
      have hx1 := HS.out j (by rw [HL.out]; omega)
      have hx2 := (hL.rng j).2
      have hq1 : 0 ≤ Q := by rw [← HQ.out]; exact Int.ediv_nonneg hp.1 (by have := pr_drop_pos HS.out (j + 1); omega)
      have hq2 : Q ≤ 1000000 := by rw [← HQ.out]; exact Int.le_trans (Int.ediv_le_self _ hp.1) hp.2
      have hix := ixL_at (s := s) (p := p) (k := j) (by rw [HL.out]; omega)
      rw [HQ.out] at hix
      have hq3 : p / pr (s.drop j) = Q / s.getD j 0 := by
        rw [pr_drop (by rw [HL.out]; omega), Int.mul_comm]
        have hd := Int.ediv_ediv (x := p) (y := pr (s.drop (j + 1))) (z := s.getD j 0)
        rw [if_neg (by have := pr_drop_pos HS.out (j + 1); omega), Int.sub_zero, HQ.out] at hd
        exact hd.symm
      have HO2 := Lib.hid ((HO.out.stored j (.int .i64 ((ixL s p).getD j 0))).1)
      have hset := set_ix (L := ixL s p) (k := j) (by rw [ixL_len, HL.out]; omega)
      rw [← List.map_set, hset] at HO2
      obtain ⟨x, HX⟩ : ∃ x, Hid (s.getD j 0 = x) := ⟨_, rfl⟩
      obtain ⟨y, HY⟩ : ∃ y, Hid ((ixL s p).getD j 0 = y) := ⟨_, rfl⟩
      rw [HX.out] at d1 d4 hx1 hx2 hix hq3
      rw [HY.out] at hix HO2 d4
      have m1 : Q.tmod x = y := by rw [hix, Int.tmod_eq_emod_of_nonneg hq1]
      have m2 : Q.tdiv x = Q / x := Int.tdiv_eq_ediv_of_nonneg hq1
      have m3 : 0 ≤ Q / x ∧ Q / x ≤ Q := ⟨Int.ediv_nonneg hq1 (by omega), Int.ediv_le_self _ hq1⟩
      have m4 : 0 ≤ y ∧ y < x := by rw [hix]; exact ⟨Int.emod_nonneg _ (by omega), Int.emod_lt_of_pos _ (by omega)⟩
      obtain ⟨Q2, HQ2⟩ : ∃ Q2, Hid (Q / x = Q2) := ⟨_, rfl⟩
      rw [HQ2.out] at m2 m3 hq3
      have HQ3 := Lib.hid hq3
      have m5 : IntKind.i64.wrap y = y := IntWalk.i64_in _ (by omega)
      have m6 : IntKind.i64.wrap Q2 = Q2 := IntWalk.i64_in _ (by omega)
      have m7 : (x == 0) = false := by simp; omega
      have m8 : ¬ x = 0 := by omega
      have m9 : IntKind.i64.wrap ((j : Int) - 1) = j - 1 := IntWalk.i64_in _ (by omega)
      have HB2 := Lib.hid (HB.out.setCell (show w.heap.size ≤ (⟨w.heap.size, j, none⟩ : Addr).block from Nat.le_refl _) (.int .i64 y))
      clear hL hc1 hb1 hx1 hx2 hq1 hq2 hix hq3 hset m3 m4 HX HY
      go_wp2
      go_roundw
      case rel => exact ⟨j, Q2, by omega, rfl, rfl, HQ3, HO2, HB2⟩
      case measure => simp [RowKit.intOf]
    · obtain rfl : k = 0 := by omega
      have hout := HO.out
      simp only [List.replicate_zero, List.nil_append, List.drop_zero] at hout
      have HF : Hid (MadeS w (ixL s p) 0 (.returned (.tuple #[.slice (some ⟨w.heap.size, 0, none⟩) n n, .int .i64 0])) wr) := by
        refine ⟨_, _, _, rfl, ls_of_own hout (by omega) (fun i => ?_), hout, HB.out⟩
        by_cases hi : i < s.length
        · have h1 := ixL_rng (p := p) HS.out i hi
          have h2 := (H.out.rng i).2
          omega
        · rw [show (ixL s p).getD i 0 = 0 by simp [List.getD, ixL, hi]]; omega
      clear hout
      go_wp2
      go_ret2
      exact HF.out
set_option maxRecDepth 100000 in
set_option maxHeartbeats 400000 in
theorem rat_any {w : World} {ao : Option Addr} {n c : Nat} {s : List Int} (h : Ls w ao n c s) (p : Int) :
    Calls Try.prog 78 #[.slice ao n c, .int .i64 p] w (MadeS w (atL s p) (atE s p)) := by
  have CZ := Lib.hid (rmay_any h)
  by_cases hm : ¬ mayE s = 0
  · rw [show atL s p = [] by simp [atL, hm], show atE s p = mayE s by simp [atE, hm]]
    obtain ⟨e, he⟩ : ∃ v, mayE s = v := ⟨_, rfl⟩
    rw [he] at CZ hm ⊢
    have hm' : (e != 0) = true := by simpa using hm
    clear h he hm
    go_enter Try.func78, Try.ntmps78
    go_wp2_with fail
    refine CZ.out.mono ?_; rintro e' w' ⟨rfl, rfl⟩
    go_wp2
    go_ret2
    exact MadeS.nil _ (Below.refl _ _)
  have hm : mayE s = 0 := by simpa using hm
  have hz : szE s = pr s := by simp [szE, hm]
  rw [hm] at CZ
  have CC := Lib.hid (rcount_any h hm)
  obtain ⟨g1, g2, g3⟩ := mayE_zero hm
  have hpb := pr_le s g1 s.length
  rw [List.take_length] at hpb
  have hlen := h.len
  by_cases hp : 0 ≤ p ∧ p < pr s
  · rw [show atL s p = ixL s p by simp [atL, hm, hp], show atE s p = 0 by simp [atE, hm, hp]]
    exact rat_ok h p hm hp
  · rw [show atL s p = [] by simp [atL, hp], show atE s p = 13 by simp [atE, hm, hp]]
    obtain ⟨P, HP⟩ : ∃ P, Hid (pr s = P) := ⟨_, rfl⟩
    rw [HP.out] at CC hp
    clear h hm hz g1 g2 g3 hpb hlen
    by_cases h0 : p < 0
    · go_enter Try.func78, Try.ntmps78
      go_wp2_with fail
      refine CZ.out.mono ?_; rintro e' w' ⟨rfl, rfl⟩
      go_wp2
      go_ret2
      exact MadeS.nil _ (Below.refl _ _)
    · have h1 : P ≤ p := by omega
      go_enter Try.func78, Try.ntmps78
      go_wp2_with fail
      refine CZ.out.mono ?_; rintro e' w' ⟨rfl, rfl⟩
      go_wp2_with fail
      refine CC.out.mono ?_; rintro e' w2 ⟨rfl, rfl⟩
      go_wp2
      go_ret2
      exact MadeS.nil _ (Below.refl _ _)
end Go.Proofs.Ythackmkdicpdeaa
namespace Go.Proofs.Ythackmkdicpdeaa
open Go.RowKit Go.Lib
set_option linter.unusedVariables false
set_option linter.unusedSimpArgs false
attribute [local go_sem] alloc_drewN setCell_drewN

/-- The state that All's answer keeps: the number of places, and the shape. -/
structure SeqAt (W : World) (bn bs : Nat) (so : Option Addr) (sn sc : Nat) (s : List Int) : Prop where
  cn : W.cell? ⟨bn, 0, none⟩ = some (.int .i64 (szE s))
  cs : W.cell? ⟨bs, 0, none⟩ = some (.slice so sn sc)
  ls : Ls W so sn sc s
  ln : bn < W.heap.size
  lb : bs < W.heap.size
theorem SeqAt.below {W W' : World} {bn bs : Nat} {so : Option Addr} {sn sc : Nat} {s : List Int} (h : SeqAt W bn bs so sn sc s) (hb : Below W.heap.size W W') : SeqAt W' bn bs so sn sc s :=
  ⟨(hb.cell (p := ⟨bn, 0, none⟩) h.ln).trans h.cn, (hb.cell (p := ⟨bs, 0, none⟩) h.lb).trans h.cs, h.ls.below hb (Nat.le_refl _), Nat.lt_of_lt_of_le h.ln hb.size, Nat.lt_of_lt_of_le h.lb hb.size⟩
def seqV (bn bs : Nat) : Value := .func (.func 100) #[] #[.pointer (some ⟨bn, 0, none⟩), .pointer (some ⟨bs, 0, none⟩)]
/-- The call hands back a sequence of a shape's places. -/
def MadeSeq (w : World) (s : List Int) (e : Ending) (w' : World) : Prop :=
  ∃ bn bs so sn sc, e = .returned (seqV bn bs) ∧ SeqAt w' bn bs so sn sc s ∧ w.heap.size ≤ bn ∧ w.heap.size ≤ bs ∧ w'.ownsRow w.heap.size 3 1 (.slice so sn sc) sn (s.map (Value.int .i64)) ∧ Below w.heap.size w w'
set_option maxRecDepth 100000 in
set_option maxHeartbeats 400000 in
theorem all_any {w : World} {ao : Option Addr} {n c : Nat} {s : List Int} (h : Ls w ao n c s) :
    Calls Try.prog 91 #[.slice ao n c] w (MadeSeq w s) := by
  have CZ := Lib.hid (size_any h)
  have hb1 : Below w.heap.size w (w.alloc (.cells #[.int .i64 (szE s)] 3)) := (Below.refl _ _).alloc (Nat.le_refl _) _
  have CC := Lib.hid (clone_any (h.below hb1 (Nat.le_refl _)))
  have hmf : ∀ (fn : Fn) (first cap : Array Value) (w : World), (Instr.makeFunc fn first cap).run Try.prog w = .ok (.func fn first cap) w := fun _ _ _ _ => rfl
  clear h
  go_enter Try.func91, Try.ntmps91
  go_wp2_with fail
  refine CZ.out.mono ?_; rintro e w1 ⟨rfl, hw⟩
  have hw' := hw.symm
  subst hw'
  go_wp2_with fail
  refine CC.out.mono ?_; rintro e w2 ⟨so, sc, rfl, hL, hO, hB⟩
  have hsz : w.heap.size + 1 ≤ w2.heap.size := by have := hB.size; simpa using this
  have HF : Hid (MadeSeq w s (.returned (seqV w.heap.size w2.heap.size)) (w2.alloc (.cells #[.slice so n sc] 25))) := by
    have hal : ∀ o, Below w2.heap.size w2 (w2.alloc o) := fun o => (Below.refl _ _).alloc (Nat.le_refl _) _
    refine ⟨w.heap.size, w2.heap.size, so, n, sc, rfl, ⟨?_, ?_, hL.below (hal _) (Nat.le_refl _), ?_, ?_⟩, Nat.le_refl _, by omega, own_mono (hO.alloc _) (by simp), hb1.trans ((hB.mono (by simp)).alloc (by omega) _)⟩
    · rw [(hal _).cell (p := ⟨w.heap.size, 0, none⟩) (by dsimp only; omega), hB.cell (p := ⟨w.heap.size, 0, none⟩) (by simp)]
      simp [go_sem]
    · simp [go_sem]
    · simp; omega
    · simp
  clear hL hO hB hsz hb1
  go_wp2
  go_ret
  exact HF.out
theorem own_pos {w : World} {base : Nat} {E : TypeId} {ao : Option Addr} {n c : Nat} {xs : List Value} (h : w.ownsRow base E 1 (.slice ao n c) n xs) (h0 : 0 < n) : ∃ g, ao = some ⟨g, 0, none⟩ := by
  rcases h.2 with ⟨e, rfl⟩ | ⟨g, cap, cur, e, _⟩
  · omega
  · cases e; exact ⟨g, rfl⟩
/-- The state of a walk over the places: how many are wanted, whether all was well, how many there were; the row at hand. -/
structure WkS (w0 W : World) (want i : Int) (ok : Bool) : Prop where
  below : Below w0.heap.size w0 W
  c0 : W.cell? ⟨w0.heap.size, 0, none⟩ = some (.int .i64 want)
  c1 : W.cell? ⟨w0.heap.size + 1, 0, none⟩ = some (.bool ok)
  c2 : W.cell? ⟨w0.heap.size + 2, 0, none⟩ = some (.int .i64 i)
  f1 : W.frozen? ⟨w0.heap.size + 1, 0, none⟩ = false
  f2 : W.frozen? ⟨w0.heap.size + 2, 0, none⟩ = false
  lt : w0.heap.size + 3 ≤ W.heap.size
theorem WkS.next {w0 W W' : World} {want i : Int} {ok : Bool} (h : WkS w0 W want i ok) {B : Nat} (hb : Below B W W') (hB : w0.heap.size + 3 ≤ B) : WkS w0 W' want i ok :=
  ⟨h.below.trans (hb.mono (by omega)), (hb.cell (p := ⟨w0.heap.size, 0, none⟩) (by dsimp only; omega)).trans h.c0, (hb.cell (p := ⟨w0.heap.size + 1, 0, none⟩) (by dsimp only; omega)).trans h.c1, (hb.cell (p := ⟨w0.heap.size + 2, 0, none⟩) (by dsimp only; omega)).trans h.c2,
    (hb.frozen (p := ⟨w0.heap.size + 1, 0, none⟩) (by dsimp only; omega)).trans h.f1, (hb.frozen (p := ⟨w0.heap.size + 2, 0, none⟩) (by dsimp only; omega)).trans h.f2, by have := hb.size; have := h.lt; omega⟩
theorem WkS.drew {w0 W : World} {want i : Int} {ok : Bool} (h : WkS w0 W want i ok) (m : Nat) : WkS w0 (W.drewN m) want i ok :=
  ⟨below_drewN h.below m, h.c0, h.c1, h.c2, h.f1, h.f2, h.lt⟩
theorem WkS.setOk {w0 W : World} {want i : Int} {ok : Bool} (h : WkS w0 W want i ok) (b : Bool) : WkS w0 (W.setCell ⟨w0.heap.size + 1, 0, none⟩ (.bool b)) want i b := by
  refine ⟨h.below.setCell (by dsimp only; omega) _, ?_, World.cell?_setCell_same _ _ _ h.c1, ?_, ?_, ?_, by simpa using h.lt⟩
  · rw [World.cell?_setCell_far _ _ _ _ (by dsimp only; omega)]; exact h.c0
  · rw [World.cell?_setCell_far _ _ _ _ (by dsimp only; omega)]; exact h.c2
  · rw [World.frozen?_setCell]; exact h.f1
  · rw [World.frozen?_setCell]; exact h.f2
theorem WkS.setI {w0 W : World} {want i : Int} {ok : Bool} (h : WkS w0 W want i ok) (j : Int) : WkS w0 (W.setCell ⟨w0.heap.size + 2, 0, none⟩ (.int .i64 j)) want j ok := by
  refine ⟨h.below.setCell (by dsimp only; omega) _, ?_, ?_, World.cell?_setCell_same _ _ _ h.c2, ?_, ?_, by simpa using h.lt⟩
  · rw [World.cell?_setCell_far _ _ _ _ (by dsimp only; omega)]; exact h.c0
  · rw [World.cell?_setCell_far _ _ _ _ (by dsimp only; omega)]; exact h.c1
  · rw [World.frozen?_setCell]; exact h.f1
  · rw [World.frozen?_setCell]; exact h.f2
theorem WkS.setFar {w0 W : World} {want i : Int} {ok : Bool} (h : WkS w0 W want i ok) {g k : Nat} (hg : w0.heap.size + 3 ≤ g) (v : Value) : WkS w0 (W.setCell ⟨g, k, none⟩ v) want i ok := by
  refine ⟨h.below.setCell (by dsimp only; omega) _, ?_, ?_, ?_, ?_, ?_, by simpa using h.lt⟩
  · rw [World.cell?_setCell_far _ _ _ _ (by dsimp only; omega)]; exact h.c0
  · rw [World.cell?_setCell_far _ _ _ _ (by dsimp only; omega)]; exact h.c1
  · rw [World.cell?_setCell_far _ _ _ _ (by dsimp only; omega)]; exact h.c2
  · rw [World.frozen?_setCell]; exact h.f1
  · rw [World.frozen?_setCell]; exact h.f2
theorem szE_pos {s : List Int} {N : Nat} (h : szE s = N) (h0 : 0 < N) : mayE s = 0 ∧ pr s = N := by
  unfold szE at h
  split at h
  · exact ⟨by assumption, h⟩
  · omega
theorem run_equalIn_func_nil {P : Program} (w : World) (d : Nat) (t : TypeId) (fn : Fn) (first cap : Array Value) {ps rs : Array TypeId} {v : Bool} (h : P.underlying t = some (.func ps rs v)) :
    (Op.equalIn (d + 1) t (.func fn first cap) .nilFunc).run P w = .ok false w := by
  simp [Op.equalIn, run_underlying h]
theorem eql_func_nil (fn : Fn) (first cap : Array Value) (w : World) : (binOp .eql 144 (.func fn first cap) .nilFunc).run Try.prog w = .ok (.bool false) w := by
  simp only [binOp]
  simp [Op.equal, Op.maxDepth, run_equalIn_func_nil w 9999 144 fn first cap Try.underlying144]
theorem wks_new {w W : World} {want : Int} (h : W = ((((w.alloc (.cells #[.int .i64 want] 3)).alloc (.cells #[.bool true] 4))).alloc (.cells #[.int .i64 0] 3))) : WkS w W want 0 true := by
  subst h
  refine ⟨(((Below.refl _ _).alloc (Nat.le_refl _) _).alloc (by simp) _).alloc (by simp; omega) _, ?_, ?_, ?_, ?_, ?_, by simp⟩ <;> simp [go_sem]
end Go.Proofs.Ythackmkdicpdeaa
namespace Go.Proofs.Ythackmkdicpdeaa
open Go.RowKit Go.Lib
set_option linter.unusedVariables false
set_option linter.unusedSimpArgs false
attribute [local go_sem] alloc_drewN setCell_drewN

theorem lit_row (w : World) (zs : List Int) (h : (zs.length < 1000 && zs.all fun x => decide (-1000 ≤ x) && decide (x ≤ 1000)) = true) :
    Ls (w.alloc (.cells (zs.map (Value.int .i64)).toArray 3)) (some ⟨w.heap.size, 0, none⟩) zs.length zs.length zs := by
  simp only [Bool.and_eq_true, decide_eq_true_eq, List.all_eq_true] at h
  refine ls_alloc w zs _ (by omega) (fun i => ?_)
  by_cases hi : i < zs.length
  · have := h.2 _ (List.getElem_mem hi)
    simp only [List.getD, List.getElem?_eq_getElem hi, Option.getD_some]
    omega
  · simp [List.getD, List.getElem?_eq_none (show zs.length ≤ i by omega)]
theorem bal (w : World) (o : Obj) : Below w.heap.size w (w.alloc o) := (Below.refl _ _).alloc (Nat.le_refl _) _
theorem bvia {w W1 W2 : World} (h : Below w.heap.size w W1) (h2 : Below W1.heap.size W1 W2) : Below w.heap.size w W2 := h.trans (h2.mono h.size)
theorem lss_two {w : World} {b1 b2 o1 o2 : Nat} {n1 c1 n2 c2 : Nat} {s t : List Int} (h1 : Ls w (some ⟨b1, o1, none⟩) n1 c1 s) (h2 : Ls w (some ⟨b2, o2, none⟩) n2 c2 t) :
    Lss (w.alloc (.cells #[.slice (some ⟨b1, o1, none⟩) n1 c1, .slice (some ⟨b2, o2, none⟩) n2 c2] 25)) (some ⟨w.heap.size, 0, none⟩) 2 2 [s, t] := by
  refine ⟨rfl, Nat.le_refl _, by omega, by unfold maxLen; omega, fun _ => ⟨w.heap.size, 0, rfl, by simp, fun i hi => ?_⟩⟩
  match i, hi with
  | 0, _ => exact ⟨_, _, _, by rw [World.cell?_alloc_at _ _ _ _ rfl]; rfl, h1.below (bal _ _) (Nat.le_refl _)⟩
  | 1, _ => exact ⟨_, _, _, by rw [World.cell?_alloc_at _ _ _ _ rfl]; rfl, h2.below (bal _ _) (Nat.le_refl _)⟩
end Go.Proofs.Ythackmkdicpdeaa

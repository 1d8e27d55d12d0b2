/- Contracts of the document's Split, both, Cover (abacusref2). -/
import Derived.Test.YthackmkdicpdeaaShapeRef2
namespace Go.Proofs.Ythackmkdicpdeaa
open Go.RowKit Go.Lib
set_option linter.unusedVariables false
set_option linter.unusedSimpArgs false
attribute [local go_sem] alloc_drewN setCell_drewN

theorem spN_le (n : Nat) (r : Int) : spN n r ≤ n := by unfold spN; split <;> (try split) <;> omega
set_option maxRecDepth 100000 in
set_option maxHeartbeats 800000 in
theorem rsplit_any {w : World} {ao : Option Addr} {n c : Nat} {s : List Int} (h : Ls w ao n c s) (r : Int) (hr : -9223372036854775808 ≤ r ∧ r ≤ 9223372036854775807) :
    Calls Try.prog 80 #[.slice ao n c, .int .i64 r] w (MadeLL w (s.take (spN n r)) (s.drop (spN n r))) := by
  have hc1 := h.cap
  have hl := h.len
  have g1 := h.big
  have g3 := h.top
  unfold maxLen at g3
  have CR := Lib.hid (rrank_any n (by omega) r hr w)
  have hrk := rkR_sp n r
  have hqn := spN_le n r
  obtain ⟨rk, HRK⟩ : ∃ z, Hid (rkR n r = z) := ⟨_, rfl⟩
  obtain ⟨q, HQ⟩ : ∃ z, Hid (spN n r = z) := ⟨_, rfl⟩
  rw [HRK.out] at CR hrk
  rw [HQ.out] at hrk hqn
  rw [HQ.out]
  have z1 : IntKind.i64.wrap ((n : Int) - rk) = q := by rw [hrk]; exact IntWalk.i64_in _ (by omega)
  have y0 : (0 : Int) ≤ q := by omega
  have y1 : (q : Int) ≤ c := by omega
  have y2 : (q : Int) ≤ n := by omega
  have y3 : (n : Int) ≤ c := by omega
  have y4 : (n : Int) - q = (n - q : Nat) := by omega
  obtain ⟨i0, hi0, hz0, hz1, hz2⟩ := info_parts (P := Try.prog) (e := 3) (z := .int .i64 0) (size := 1) (bytes := 8) (by kernel_rfl)
  have HT : Hid (Ls w.drew ao q c (s.take q)) := (h.take hqn).drew 1
  have b1 : q * 8 ≤ 140737488355328 := by omega
  have b2 : (n - q) * 8 ≤ 140737488355328 := by omega
  have HL := Lib.hid hl
  clear hr hrk hl
  by_cases hcq : c = q
  · have HE : Hid (s.drop q = []) := by show _ = _; exact List.drop_of_length_le (by rw [HL.out]; omega)
    have hz9 : q - q = 0 := Nat.sub_self q
    obtain rfl : n = q := by omega
    subst hcq
    have b3 : 0 * 8 ≤ 140737488355328 := by omega
    have z9 : IntKind.i64.wrap (0 : Int) = 0 := IntWalk.i64_in _ (by omega)
    clear h
    go_enter Try.func80, Try.ntmps80
    go_wp2_with fail
    refine CR.out.mono ?_; rintro e w1 ⟨rfl, rfl⟩
    go_wp2_with fail
    go_region_held3 (fun _ => True) (trivial)
      (first
      | ((refine step_append_loc0 _ (by rfl) _ _ 25 (by rfl) _ 3 i0 Try.underlying25 hi0 hz0 hz1 hz2 _ (by rfl) (World.ownsRow_nil _ _ _ _) (by rfl) HT.out b1 (Nat.le_refl _) ?_); intro d1 e1 w3 ho1 hg1 hl1 hn1)
      | ((refine step_append_loc0 _ (by rfl) _ _ 25 (by rfl) w3.heap.size 3 i0 Try.underlying25 hi0 hz0 hz1 hz2 _ (by rfl) (World.ownsRow_nil _ _ _ _) (by rfl) (Ls.zero _ _ (Nat.zero_le _ : 0 ≤ maxLen)) b3 (Nat.le_refl _) ?_); intro d2 e2 w4 ho2 hg2 hl2 hn2))
    have HF : Hid (MadeLL w1 (s.take c) (s.drop c) (.returned (.tuple #[.slice d1 c e1, .slice d2 0 e2])) w4) := mll (grown_below2 hg1) ho1 (ls_of_own ho1 g1 HT.out.rng) (grown_below2 hg2) ho2 (ls_of_own ho2 (by omega) (Ls.zero w1 none (Nat.zero_le _ : 0 ≤ maxLen)).rng) rfl HE.out
    clear ho1 hg1 hl1 hn1 ho2 hg2 hl2 hn2
    go_wp2
    go_ret2
    exact HF.out
  · have y5 : ¬ c = q := hcq
    have HD := Lib.hid (fun wx (hb : Below w.heap.size w wx) => (h.cutA q (n - q) (by omega)).below hb (Nat.le_refl _))
    have HE : Hid (s.drop q = (s.drop q).take (n - q)) := by show _ = _; rw [List.take_of_length_le]; rw [List.length_drop, HL.out]; omega
    have HI := Lib.hid h
    clear h
    go_enter Try.func80, Try.ntmps80
    go_wp2_with fail
    refine CR.out.mono ?_; rintro e w1 ⟨rfl, rfl⟩
    go_wp2_with fail
    go_region_held3 (fun _ => True) (trivial)
      (first
      | ((refine step_append_loc0 _ (by rfl) _ _ 25 (by rfl) _ 3 i0 Try.underlying25 hi0 hz0 hz1 hz2 _ (by rfl) (World.ownsRow_nil _ _ _ _) (by rfl) HT.out b1 (Nat.le_refl _) ?_); intro d1 e1 w3 ho1 hg1 hl1 hn1; have hC1 := abvia (adrew1 _) (grown_below2 hg1))
      | ((refine step_append_loc0 _ (by rfl) _ _ 25 (by rfl) w3.heap.size 3 i0 Try.underlying25 hi0 hz0 hz1 hz2 _ (by rfl) (World.ownsRow_nil _ _ _ _) (by rfl) (HD.out w3 hC1) b2 (Nat.le_refl _) ?_); intro d2 e2 w4 ho2 hg2 hl2 hn2))
    have HF : Hid (MadeLL w1 (s.take q) (s.drop q) (.returned (.tuple #[.slice d1 q e1, .slice d2 (n - q) e2])) w4) := mll (grown_below2 hg1) ho1 (ls_of_own ho1 HT.out.big HT.out.rng) (grown_below2 hg2) ho2 (ls_of_own ho2 (by omega) (HD.out w1 (Below.refl _ _)).rng) rfl HE.out
    clear ho1 hg1 hl1 hn1 ho2 hg2 hl2 hn2
    go_wp2
    go_ret2
    exact HF.out
set_option maxRecDepth 100000 in
set_option maxHeartbeats 1600000 in
theorem rboth_any {w : World} {a1 a2 : Option Addr} {n1 c1 n2 c2 : Nat} {s t : List Int} (h1 : Ls w a1 n1 c1 s) (h2 : Ls w a2 n2 c2 t) (hb1 : n1 ≤ 1000000) (hb2 : n2 ≤ 1000000) :
    Calls Try.prog 93 #[.slice a1 n1 c1, .slice a2 n2 c2] w (MadeL w (bthL s t)) := by
  have hl1 := h1.len
  have hl2 := h2.len
  obtain ⟨N, hN⟩ : ∃ N, N = max n1 n2 := ⟨_, rfl⟩
  have hNb : N ≤ 1000000 := by omega
  have hmk := fun w => mk_int N hNb w
  have z1 : max (n1 : Int) n2 = N := by omega
  have hLN : N = (bthL s t).length := by rw [bthL_len, hl1, hl2, hN]
  have hg : ∀ k, k < N → (bthL s t).getD k 0 = max (frL s N k) (frL t N k) := fun k hk => by
    have e : max s.length t.length = N := by rw [hl1, hl2, hN]
    simp [bthL, List.getD, e, hk]
  obtain ⟨W, HWW⟩ : ∃ W, Hid (w.alloc (.cells (Array.replicate N (.int .i64 0)) 3) = W) := ⟨_, rfl⟩
  have hw : Below w.heap.size w W := by rw [← HWW.out]; exact abal _ _
  have hO := own_zeros w 3 N w.heap.size hNb (Nat.le_refl _)
  rw [HWW.out] at hO
  have HO0 := Lib.hid hO
  have HW := Lib.hid hw
  have HG := Lib.hid hg
  have HLN := Lib.hid hLN
  have H1 := Lib.hid h1
  have H2 := Lib.hid h2
  have HL1 := Lib.hid hl1
  have HL2 := Lib.hid hl2
  have hn1 : n1 ≤ N := by omega
  have hn2 : n2 ≤ N := by omega
  have z2 : IntKind.i64.wrap ((N : Int) - n1) = (N - n1 : Nat) := by rw [show (N : Int) - n1 = (N - n1 : Nat) by omega]; exact IntWalk.i64_in _ (by omega)
  have z3 : IntKind.i64.wrap ((N : Int) - n2) = (N - n2 : Nat) := by rw [show (N : Int) - n2 = (N - n2 : Nat) by omega]; exact IntWalk.i64_in _ (by omega)
  have HNN := Lib.hid hN
  clear h1 h2 hO hw hg hLN hl1 hl2 hN
  go_enter Try.func93, Try.ntmps93
  go_wp2_with fail
  rw [HWW.out]
  go_loopw [7, 8, 9] (fun i x y wr => ∃ k : Nat, k ≤ N ∧ i = .int .i64 k ∧ Hid (wr.ownsRow w.heap.size 3 1 (.slice (some ⟨w.heap.size, 0, none⟩) N N) N (((bthL s t).take k ++ List.replicate (N - k) (0 : Int)).map (Value.int .i64))) ∧ Hid (Below w.heap.size w wr)) (fun i _ _ _ => N - (RowKit.intOf i).toNat)
  case atStart => exact ⟨0, Nat.zero_le _, rfl, by simpa using HO0, HW⟩
  case round =>
    obtain ⟨k, hk, rfl, HO, HB⟩ := hrel
    by_cases hlt : k < N
    · have hlt' : (k : Int) < N := by omega
      have d2 : ∃ v, wr.cell? ⟨w.heap.size, k, none⟩ = some v := by
        rw [HO.out.cellAt k (by omega)]
        exact ⟨_, List.getElem?_eq_getElem (by have := HO.out.1; rw [this]; omega)⟩
      obtain ⟨v0, d2⟩ := d2
      have d3 := HO.out.frozenAt k
      have HO2 := Lib.hid ((HO.out.stored k (.int .i64 ((bthL s t).getD k 0))).1)
      rw [← List.map_set, set_take HLN.out hlt, HG.out k hlt] at HO2
      have HB2 := Lib.hid (HB.out.setCell (show w.heap.size ≤ (⟨w.heap.size, k, none⟩ : Addr).block from Nat.le_refl _) (.int .i64 (max (frL s N k) (frL t N k))))
      obtain ⟨x, HX1⟩ : ∃ x, Hid (frL s N k = x) := ⟨_, rfl⟩
      obtain ⟨y, HY1⟩ : ∃ y, Hid (frL t N k = y) := ⟨_, rfl⟩
      rw [HX1.out, HY1.out] at HO2 HB2
      have z4 : IntKind.i64.wrap ((k : Int) - N) = (k : Int) - N := IntWalk.i64_in _ (by omega)
      have hx := HX1.out
      have hy := HY1.out
      unfold frL at hx hy
      rw [HL1.out] at hx
      rw [HL2.out] at hy
      by_cases hcase01 : (k < N - n1) ∧ (¬ k < N - n2)
      · obtain ⟨hu, hv⟩ := hcase01
        rw [if_pos hu] at hx
        rw [if_neg hv] at hy
        have e1 : ¬ ((N - n1 : Nat) : Int) ≤ k := by omega
        obtain rfl : x = 1 := hx.symm
        have e2 : ((N - n2 : Nat) : Int) ≤ k := by omega
        obtain ⟨by', oy, rfl, hcy⟩ := (H2.out.via HB.out).at (by omega)
        have dy := hcy (k - (N - n2)) (by omega)
        rw [hy] at dy
        have z7 : IntKind.i64.wrap ((k : Int) - N + n2) = (k - (N - n2) : Nat) := by rw [show (k : Int) - N + n2 = (k - (N - n2) : Nat) by omega]; exact IntWalk.i64_in _ (by omega)
        have z8 : ((k - (N - n2) : Nat) : Int) < n2 := by omega
        obtain ⟨K2, HK2⟩ : ∃ z, k - (N - n2) = z := ⟨_, rfl⟩
        rw [HK2] at dy z7 z8
        clear hx hy hu hv
        clear hcy HK2
        go_wp2
        go_roundw
        case rel => exact ⟨k + 1, by omega, by go_num, HO2, HB2⟩
        case measure => simp [RowKit.intOf]; omega
      by_cases hcase10 : (¬ k < N - n1) ∧ (k < N - n2)
      · obtain ⟨hu, hv⟩ := hcase10
        rw [if_neg hu] at hx
        rw [if_pos hv] at hy
        have e1 : ((N - n1 : Nat) : Int) ≤ k := by omega
        obtain ⟨bx, ox, rfl, hcx⟩ := (H1.out.via HB.out).at (by omega)
        have dx := hcx (k - (N - n1)) (by omega)
        rw [hx] at dx
        have z5 : IntKind.i64.wrap ((k : Int) - N + n1) = (k - (N - n1) : Nat) := by rw [show (k : Int) - N + n1 = (k - (N - n1) : Nat) by omega]; exact IntWalk.i64_in _ (by omega)
        have z6 : ((k - (N - n1) : Nat) : Int) < n1 := by omega
        obtain ⟨K1, HK1⟩ : ∃ z, k - (N - n1) = z := ⟨_, rfl⟩
        rw [HK1] at dx z5 z6
        have e2 : ¬ ((N - n2 : Nat) : Int) ≤ k := by omega
        obtain rfl : y = 1 := hy.symm
        clear hx hy hu hv
        clear hcx HK1
        go_wp2
        go_roundw
        case rel => exact ⟨k + 1, by omega, by go_num, HO2, HB2⟩
        case measure => simp [RowKit.intOf]; omega
      by_cases hcase11 : (¬ k < N - n1) ∧ (¬ k < N - n2)
      · obtain ⟨hu, hv⟩ := hcase11
        rw [if_neg hu] at hx
        rw [if_neg hv] at hy
        have e1 : ((N - n1 : Nat) : Int) ≤ k := by omega
        obtain ⟨bx, ox, rfl, hcx⟩ := (H1.out.via HB.out).at (by omega)
        have dx := hcx (k - (N - n1)) (by omega)
        rw [hx] at dx
        have z5 : IntKind.i64.wrap ((k : Int) - N + n1) = (k - (N - n1) : Nat) := by rw [show (k : Int) - N + n1 = (k - (N - n1) : Nat) by omega]; exact IntWalk.i64_in _ (by omega)
        have z6 : ((k - (N - n1) : Nat) : Int) < n1 := by omega
        obtain ⟨K1, HK1⟩ : ∃ z, k - (N - n1) = z := ⟨_, rfl⟩
        rw [HK1] at dx z5 z6
        have e2 : ((N - n2 : Nat) : Int) ≤ k := by omega
        obtain ⟨by', oy, rfl, hcy⟩ := (H2.out.via HB.out).at (by omega)
        have dy := hcy (k - (N - n2)) (by omega)
        rw [hy] at dy
        have z7 : IntKind.i64.wrap ((k : Int) - N + n2) = (k - (N - n2) : Nat) := by rw [show (k : Int) - N + n2 = (k - (N - n2) : Nat) by omega]; exact IntWalk.i64_in _ (by omega)
        have z8 : ((k - (N - n2) : Nat) : Int) < n2 := by omega
        obtain ⟨K2, HK2⟩ : ∃ z, k - (N - n2) = z := ⟨_, rfl⟩
        rw [HK2] at dy z7 z8
        clear hx hy hu hv
        clear hcx HK1
        clear hcy HK2
        go_wp2
        go_roundw
        case rel => exact ⟨k + 1, by omega, by go_num, HO2, HB2⟩
        case measure => simp [RowKit.intOf]; omega
      have hN := HNN.out
      exfalso
      omega
    · obtain rfl : k = N := by omega
      have hge : (k : Int) ≤ k := Int.le_refl _
      have hout := HO.out
      rw [Nat.sub_self, List.replicate_zero, List.append_nil, List.take_of_length_le (by rw [← HLN.out]; omega)] at hout
      have HF : Hid (MadeL w (bthL s t) (.returned (.slice (some ⟨w.heap.size, 0, none⟩) k k)) wr) := by
        exact ⟨_, _, _, rfl, ls_of_own hout (by omega) (bthL_rng H1.out.rng H2.out.rng), hout, HB.out⟩
      clear hout
      go_wp2
      go_ret
      exact HF.out
theorem bth_17 {s t : List Int} (hs : mayE s = 0) (ht : mayE t = 0) (h : mayE (bthL s t) ≠ 0) : mayE (bthL s t) = 17 := by
  obtain ⟨g1, -, -⟩ := mayE_zero hs
  obtain ⟨g2, -, -⟩ := mayE_zero ht
  rcases mayE_cases (bthL s t) with h1 | h1 | h1
  · exact absurd h1 h
  · exfalso
    unfold mayE at h1
    split at h1
    · rename_i hn
      obtain ⟨i, hi, hlt⟩ := any_neg_iff.1 hn
      rw [bthL_len] at hi
      have e : (bthL s t).getD i 0 = max (frL s (max s.length t.length) i) (frL t (max s.length t.length) i) := by simp [bthL, List.getD, hi]
      rw [e] at hlt
      have h3 : 0 ≤ frL s (max s.length t.length) i := by
        unfold frL; split
        · omega
        · exact g1 _
      omega
    · split at h1
      · omega
      · split at h1 <;> omega
  · exact h1
set_option maxRecDepth 100000 in
set_option maxHeartbeats 1600000 in
theorem rcover_any {w : World} {ao : Option Addr} {n c : Nat} {zss : List (List Int)} (h : Lss w ao n c zss) :
    Calls Try.prog 76 #[.slice ao n c] w (MadeS w (cvR zss).1 (cvR zss).2) := by
  have hl := h.len
  have g1 := h.big
  obtain ⟨R, HR⟩ : ∃ R, Hid (cvR zss = R) := ⟨_, rfl⟩
  rw [HR.out]
  by_cases h0 : n = 0
  · subst h0
    obtain rfl : R = ([], 1) := by rw [← HR.out, List.eq_nil_of_length_eq_zero hl]; rfl
    clear h hl HR
    go_enter Try.func76, Try.ntmps76
    go_wp2
    go_ret2
    exact MadeS.nil _ (Below.refl _ _)
  have hn0 : ((n : Int) == 0) = false := by simp; omega
  have hn1 : (n == 0) = false := by simp; omega
  have H := Lib.hid h
  have HL := Lib.hid hl
  obtain ⟨i0, hi0, hz0, hz1, hz2⟩ := info_parts (P := Try.prog) (e := 3) (z := .int .i64 0) (size := 1) (bytes := 8) (by kernel_rfl)
  clear h hl
  go_enter Try.func76, Try.ntmps76
  go_wp2_with fail
  go_loopw [4, 5, 6] (fun v i e wr => ∃ (k : Nat) (co : Option Addr) (cn cc : Nat), k ≤ n ∧ i = .int .i64 k ∧ v = .slice co cn cc ∧ Hid (k = 0 → v = .slice none 0 0) ∧ Hid (Below w.heap.size w wr) ∧ Hid (0 < k → ∃ cl, Ls wr co cn cc cl ∧ wr.ownsRow w.heap.size 3 1 (.slice co cn cc) cn (cl.map (Value.int .i64)) ∧ mayE cl = 0 ∧ cvGo cl (zss.drop k) = R)) (fun _ i _ _ => n - (RowKit.intOf i).toNat)
  case atStart => exact ⟨0, none, 0, 0, Nat.zero_le _, rfl, rfl, fun _ => rfl, Below.refl _ _, fun h => absurd h (by omega)⟩
  case round =>
    obtain ⟨k, co, cn, cc, hk, rfl, rfl, HV0, HB, HC⟩ := hrel
    by_cases hlt : k < n
    · have hlt' : (k : Int) < n := by omega
      obtain ⟨b, off, rfl, hlb, hcs⟩ := (H.out.below HB.out (Nat.le_refl _)).mem (by omega)
      obtain ⟨ai, ni, ci, d1, hs⟩ := hcs k hlt
      have CM := Lib.hid (rmay_any hs)
      obtain ⟨s, HS⟩ : ∃ s, Hid (zss.getD k [] = s) := ⟨_, rfl⟩
      rw [HS.out] at CM hs
      have HLS := Lib.hid hs
      clear hcs hlb hs
      by_cases hm : ¬ mayE s = 0
      · have hR : R = ([], mayE s) := by
          by_cases hk0 : 0 < k
          · obtain ⟨cl, -, -, -, h4⟩ := HC.out hk0
            rw [← h4, cvGo_step (by rw [HL.out]; exact hlt), HS.out, if_neg hm]
          · obtain rfl : k = 0 := by omega
            rw [← HR.out, cvR_step (by rw [HL.out]; exact hlt), HS.out, if_neg hm]
        subst hR
        obtain ⟨e, HE⟩ : ∃ e, Hid (mayE s = e) := ⟨_, rfl⟩
        rw [HE.out] at CM hm
        have hm' : (e != 0) = true := by simpa using hm
        have HF : Hid (MadeS w [] (mayE s) (.returned (.tuple #[.slice none 0 0, .int .i64 e])) wr) := by rw [HE.out]; exact MadeS.nil _ HB.out
        clear hm
        go_wp2_with fail
        refine CM.out.mono ?_; rintro e' w' ⟨rfl, hw'⟩
        have hw'' := hw'.symm
        subst hw''
        go_wp2
        go_ret2
        exact HF.out
      have hm : mayE s = 0 := by simpa using hm
      rw [hm] at CM
      by_cases hk0 : ¬ 0 < k
      · obtain rfl : k = 0 := by omega
        rw [Nat.add_zero] at d1
        have hv0 := HV0.out rfl
        simp only [Value.slice.injEq] at hv0
        obtain ⟨rfl, rfl, rfl⟩ := hv0
        have HR2 : Hid (cvGo s (zss.drop 1) = R) := by show _ = _; rw [← HR.out, cvR_step (by rw [HL.out]; exact hlt), HS.out, if_pos hm]
        have HMS := Lib.hid hm
        have hbd : ni * 8 ≤ 140737488355328 := by have := HLS.out.big; omega
        clear hm hk0
        go_wp2_with fail
        refine CM.out.mono ?_; rintro e' w' ⟨rfl, hw'⟩
        have hw'' := hw'.symm
        subst hw''
        go_wp2_with (at_builtin; refine wpList_append_loc _ rfl _ _ 25 rfl wr.heap.size 3 i0 Try.underlying25 hi0 hz0 hz1 hz2 _ 0 [] rfl (World.ownsRow_nil _ _ _ _) rfl HLS.out (by omega) (Nat.le_refl _) ?_)
        intro bo d w2 ho hg hl hn
        have hL2 := ls_of_own ho HLS.out.big HLS.out.rng
        have CM2 := Lib.hid (rmay_any hL2)
        rw [HMS.out] at CM2
        have HB2 : Hid (Below w.heap.size w w2) := abvia HB.out (grown_below2 hg)
        have HC2 : Hid (0 < 0 + 1 → ∃ cl, Ls w2 bo ni d cl ∧ w2.ownsRow w.heap.size 3 1 (.slice bo ni d) ni (cl.map (Value.int .i64)) ∧ mayE cl = 0 ∧ cvGo cl (zss.drop (0 + 1)) = R) := fun _ => ⟨s, hL2, own_mono ho HB.out.size, HMS.out, HR2.out⟩
        clear hL2 ho hg hl hn
        go_wp2_with fail
        refine CM2.out.mono ?_; rintro e' w' ⟨rfl, hw'⟩
        have hw'' := hw'.symm
        subst hw''
        go_wp2
        go_roundw
        case rel => exact ⟨0 + 1, bo, ni, d, by omega, by go_num, rfl, fun h => absurd h (by omega), HB2, HC2⟩
        case measure => simp [RowKit.intOf]; omega
      have hk0 : 0 < k := by omega
      obtain ⟨cl, hcl1, hcl2, hcl3, hcl4⟩ := HC.out hk0
      have hk1 : ((k : Int) == 0) = false := by simp; omega
      have hk2 : (k == 0) = false := by simp; omega
      have hstep := cvGo_step (c := cl) (zss := zss) (k := k) (by rw [HL.out]; exact hlt)
      rw [hcl4, HS.out, if_pos hm] at hstep
      have hb1 := (mayE_zero hcl3).2.1
      have hb2 := (mayE_zero hm).2.1
      have H17 := Lib.hid (fun h => bth_17 hcl3 hm h)
      have CB := Lib.hid (rboth_any hcl1 HLS.out (by have := hcl1.len; omega) (by have := HLS.out.len; omega))
      clear hcl1 hcl2 hcl3 hcl4 hb1 hb2 hm hk0
      by_cases hq : mayE (bthL cl s) = 0
      · rw [if_pos hq] at hstep
        have HST := Lib.hid hstep
        have HQ := Lib.hid hq
        clear hstep hq
        go_wp2_with fail
        refine CM.out.mono ?_; rintro e' w' ⟨rfl, hw'⟩
        have hw'' := hw'.symm
        subst hw''
        go_wp2_with fail
        refine CB.out.mono ?_; rintro e' w2 ⟨co2, cn2, cc2, rfl, hL2, hO2, hB2⟩
        have CM2 := Lib.hid (rmay_any hL2)
        rw [HQ.out] at CM2
        have HB2 : Hid (Below w.heap.size w w2) := HB.out.trans (hB2.mono HB.out.size)
        have HC2 : Hid (0 < k + 1 → ∃ cl, Ls w2 co2 cn2 cc2 cl ∧ w2.ownsRow w.heap.size 3 1 (.slice co2 cn2 cc2) cn2 (cl.map (Value.int .i64)) ∧ mayE cl = 0 ∧ cvGo cl (zss.drop (k + 1)) = R) := fun _ => ⟨_, hL2, own_mono hO2 HB.out.size, HQ.out, HST.out.symm⟩
        clear hL2 hO2 hB2
        go_wp2_with fail
        refine CM2.out.mono ?_; rintro e' w' ⟨rfl, hw'⟩
        have hw'' := hw'.symm
        subst hw''
        go_wp2
        go_roundw
        case rel => exact ⟨k + 1, co2, cn2, cc2, by omega, by go_num, rfl, fun h => absurd h (by omega), HB2, HC2⟩
        case measure => simp [RowKit.intOf]; omega
      · rw [if_neg hq] at hstep
        subst hstep
        have hq17 := H17.out hq
        clear hq
        go_wp2_with fail
        refine CM.out.mono ?_; rintro e' w' ⟨rfl, hw'⟩
        have hw'' := hw'.symm
        subst hw''
        go_wp2_with fail
        refine CB.out.mono ?_; rintro e' w2 ⟨co2, cn2, cc2, rfl, hL2, hO2, hB2⟩
        have CM2 := Lib.hid (rmay_any hL2)
        rw [hq17] at CM2
        have HF : Hid (MadeS w [] 17 (.returned (.tuple #[.slice none 0 0, .int .i64 17])) w2) := MadeS.nil _ (HB.out.trans (hB2.mono HB.out.size))
        clear hL2 hO2 hB2 hq17
        go_wp2_with fail
        refine CM2.out.mono ?_; rintro e' w' ⟨rfl, hw'⟩
        have hw'' := hw'.symm
        subst hw''
        go_wp2
        go_ret2
        exact HF.out
    · obtain rfl : k = n := by omega
      have hge : (k : Int) ≤ k := Int.le_refl _
      obtain ⟨cl, hcl1, hcl2, hcl3, hcl4⟩ := HC.out (by omega)
      obtain rfl : R = (cl, 0) := by rw [← hcl4, List.drop_of_length_le (by rw [HL.out]; omega)]; rfl
      have HF : Hid (MadeS w cl 0 (.returned (.tuple #[.slice co cn cc, .int .i64 0])) wr) := ⟨_, _, _, rfl, hcl1, hcl2, HB.out⟩
      clear hcl1 hcl2 hcl3 hcl4
      go_wp2
      go_ret2
      exact HF.out
end Go.Proofs.Ythackmkdicpdeaa

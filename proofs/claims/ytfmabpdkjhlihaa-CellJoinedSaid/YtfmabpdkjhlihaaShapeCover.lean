/- Contracts of shape.both and its closure, shape.Cover. -/
import Derived.Test.YtfmabpdkjhlihaaShapeCut
namespace Go.Proofs.Ytfmabpdkjhlihaa
open Go.RowKit Go.Lib
set_option linter.unusedVariables false
set_option linter.unusedSimpArgs false
attribute [local go_sem] alloc_drewN setCell_drewN

/-- A shape's length on the axis i of N, 1 where it has none. -/
def frL (s : List Int) (N i : Nat) : Int := if i < N - s.length then 1 else s.getD (i - (N - s.length)) 0
set_option maxHeartbeats 400000 in
theorem from_any {w : World} {ao : Option Addr} {n c : Nat} {s : List Int} (h : Ls w ao n c s) {bn N : Nat} (hc : w.cell? ⟨bn, 0, none⟩ = some (.int .i64 N)) (hn : n ≤ N) (hN : N ≤ 140737488351232) (i : Nat) (hi : i < N) :
    Calls Try.prog 88 #[.slice ao n c, .int .i64 i, .pointer (some ⟨bn, 0, none⟩)] w (RetS w (.int .i64 (frL s N i))) := by
  have hl := h.len
  have z1 : IntKind.i64.wrap ((N : Int) - n) = (N - n : Nat) := by rw [show (N : Int) - n = (N - n : Nat) by omega]; exact IntWalk.i64_in _ (by omega)
  by_cases hlt : i < N - n
  · rw [show frL s N i = 1 by unfold frL; rw [hl, if_pos hlt]]
    have hlt' : (i : Int) < (N - n : Nat) := by omega
    clear h hl
    go_enter Try.func88, Try.ntmps88
    go_wp2
    go_ret
    exact RetS.mk rfl
  · obtain ⟨j, hj⟩ : ∃ j, i = N - n + j := ⟨i - (N - n), by omega⟩
    rw [show frL s N i = s.getD j 0 by unfold frL; rw [hl, if_neg hlt, show i - (N - n) = j by omega]]
    have hlt' : ((N - n : Nat) : Int) ≤ i := by omega
    have z2 : IntKind.i64.wrap ((i : Int) - (N - n : Nat)) = j := by rw [show (i : Int) - (N - n : Nat) = j by omega]; exact IntWalk.i64_in _ (by omega)
    have hjn : j < n := by omega
    have hjn' : (j : Int) < n := by omega
    obtain ⟨b1, o1, rfl, hc1⟩ := h.at (by omega)
    have d1 := hc1 j hjn
    clear h hl hc1 hj
    go_enter Try.func88, Try.ntmps88
    go_wp2
    go_ret
    exact RetS.mk rfl
/-- The common shape of two. -/
def bthL (s t : List Int) : List Int := (List.range (max s.length t.length)).map fun i => max (frL s (max s.length t.length) i) (frL t (max s.length t.length) i)
theorem bthL_len (s t : List Int) : (bthL s t).length = max s.length t.length := by simp [bthL]
theorem set_take {L : List Int} {k N : Nat} (hN : N = L.length) (h : k < N) : (L.take k ++ List.replicate (N - k) (0 : Int)).set k (L.getD k 0) = L.take (k + 1) ++ List.replicate (N - (k + 1)) 0 := by
  subst hN
  have hl : (L.take k).length = k := by simp; omega
  rw [List.set_append_right _ _ (by omega), hl, Nat.sub_self]
  obtain ⟨q, hq⟩ : ∃ q, L.length - k = q + 1 := ⟨L.length - k - 1, by omega⟩
  rw [hq, show L.length - (k + 1) = q by omega, List.replicate_succ (n := q), List.set_cons_zero, take_snoc h, List.append_assoc]
  rfl
theorem frL_rng {s : List Int} (h : ∀ i, -9223372036854775808 ≤ s.getD i 0 ∧ s.getD i 0 ≤ 9223372036854775807) (N i : Nat) : -9223372036854775808 ≤ frL s N i ∧ frL s N i ≤ 9223372036854775807 := by
  unfold frL; split
  · omega
  · exact h _
theorem bthL_rng {s t : List Int} (hs : ∀ i, -9223372036854775808 ≤ s.getD i 0 ∧ s.getD i 0 ≤ 9223372036854775807) (ht : ∀ i, -9223372036854775808 ≤ t.getD i 0 ∧ t.getD i 0 ≤ 9223372036854775807) (i : Nat) :
    -9223372036854775808 ≤ (bthL s t).getD i 0 ∧ (bthL s t).getD i 0 ≤ 9223372036854775807 := by
  by_cases hi : i < max s.length t.length
  · have h1 := frL_rng hs (max s.length t.length) i
    have h2 := frL_rng ht (max s.length t.length) i
    have : (bthL s t).getD i 0 = max (frL s (max s.length t.length) i) (frL t (max s.length t.length) i) := by simp [bthL, List.getD, hi]
    rw [this]; omega
  · rw [show (bthL s t).getD i 0 = 0 by simp [bthL, List.getD, hi]]; omega
set_option maxRecDepth 100000 in
set_option maxHeartbeats 800000 in
theorem both_any {w : World} {a1 a2 : Option Addr} {n1 c1 n2 c2 : Nat} {s t : List Int} (h1 : Ls w a1 n1 c1 s) (h2 : Ls w a2 n2 c2 t) (hb1 : n1 ≤ 1000000) (hb2 : n2 ≤ 1000000) :
    Calls Try.prog 54 #[.slice a1 n1 c1, .slice a2 n2 c2] w (MadeL w (bthL s t)) := by
  have hl1 := h1.len
  have hl2 := h2.len
  obtain ⟨N, hN⟩ : ∃ N, N = max n1 n2 := ⟨_, rfl⟩
  have hNb : N ≤ 1000000 := by omega
  have hmk := fun w => mk_int N hNb w
  have hmf : ∀ (fn : Fn) (first cap : Array Value) (w : World), (Instr.makeFunc fn first cap).run Try.prog w = .ok (.func fn first cap) w := fun _ _ _ _ => rfl
  have z1 : max (n1 : Int) n2 = N := by omega
  have hLN : N = (bthL s t).length := by rw [bthL_len, hl1, hl2, hN]
  have hg : ∀ k, k < N → (bthL s t).getD k 0 = max (frL s N k) (frL t N k) := fun k hk => by
    have e : max s.length t.length = N := by rw [hl1, hl2, hN]
    simp [bthL, List.getD, e, hk]
  obtain ⟨W, HWW⟩ : ∃ W, Hid ((w.alloc (.cells #[.int .i64 N] 3)).alloc (.cells (Array.replicate N (.int .i64 0)) 3) = W) := ⟨_, rfl⟩
  have hw : Below w.heap.size w W := by rw [← HWW.out]; exact ((Below.refl _ _).alloc (Nat.le_refl _) _).alloc (by simp) _
  have hsz : W.heap.size = w.heap.size + 2 := by rw [← HWW.out]; simp
  have hO := own_zeros (w.alloc (.cells #[.int .i64 N] 3)) 3 N (w.heap.size + 1) hNb (by simp)
  rw [HWW.out, show (w.alloc (.cells #[.int .i64 N] 3)).heap.size = w.heap.size + 1 by simp] at hO
  have hX : W.cell? ⟨w.heap.size, 0, none⟩ = some (.int .i64 N) := by rw [← HWW.out]; simp [go_sem]
  have HX := Lib.hid hX
  have HO0 := Lib.hid hO
  have HW := Lib.hid hw
  have HG := Lib.hid hg
  have HLN := Lib.hid hLN
  have SZ := Lib.hid hsz
  have F1 := Lib.hid (fun wr (hB : Below (w.heap.size + 1) W wr) => fun i (hi : i < N) => from_any (bn := w.heap.size) (h1.below (hw.trans (hB.mono (Nat.le_succ _))) (Nat.le_refl _)) ((hB.cell (p := ⟨w.heap.size, 0, none⟩) (Nat.lt_succ_self _)).trans hX) (show n1 ≤ N by omega) (by omega) i hi)
  have F2 := Lib.hid (fun wr (hB : Below (w.heap.size + 1) W wr) => fun i (hi : i < N) => from_any (bn := w.heap.size) (h2.below (hw.trans (hB.mono (Nat.le_succ _))) (Nat.le_refl _)) ((hB.cell (p := ⟨w.heap.size, 0, none⟩) (Nat.lt_succ_self _)).trans hX) (show n2 ≤ N by omega) (by omega) i hi)
  have HR1 := Lib.hid h1.rng
  have HR2 := Lib.hid h2.rng
  clear h1 h2 hO hw hg hLN hsz hX hl1 hl2 hN
  go_enter Try.func54, Try.ntmps54
  go_wp2_with fail
  rw [HWW.out]
  go_loopw [19] (fun i wr => ∃ k : Nat, k ≤ N ∧ i = .int .i64 k ∧ Hid (wr.ownsRow (w.heap.size + 1) 3 1 (.slice (some ⟨w.heap.size + 1, 0, none⟩) N N) N (((bthL s t).take k ++ List.replicate (N - k) (0 : Int)).map (Value.int .i64))) ∧ Hid (Below (w.heap.size + 1) W wr)) (fun i _ => N - (RowKit.intOf i).toNat)
  case atStart => exact ⟨0, Nat.zero_le _, rfl, by simpa using HO0, Below.refl _ _⟩
  case round =>
    obtain ⟨k, hk, rfl, HO, HB⟩ := hrel
    by_cases hlt : k < N
    · have hlt' : (k : Int) < N := by omega
      have d2 : ∃ v, wr.cell? ⟨w.heap.size + 1, k, none⟩ = some v := by
        rw [HO.out.cellAt k (by omega)]
        exact ⟨_, List.getElem?_eq_getElem (by have := HO.out.1; rw [this]; omega)⟩
      obtain ⟨v0, d2⟩ := d2
      have d3 := HO.out.frozenAt k
      have HO2 := Lib.hid ((HO.out.stored k (.int .i64 ((bthL s t).getD k 0))).1)
      rw [← List.map_set, set_take HLN.out hlt, HG.out k hlt] at HO2
      have HB2 := Lib.hid (HB.out.setCell (show w.heap.size + 1 ≤ (⟨w.heap.size + 1, k, none⟩ : Addr).block from Nat.le_refl _) (.int .i64 (max (frL s N k) (frL t N k))))
      have G1 := Lib.hid (F1.out wr HB.out k hlt)
      have G2 := Lib.hid (F2.out wr HB.out k hlt)
      obtain ⟨x, HX1⟩ : ∃ x, Hid (frL s N k = x) := ⟨_, rfl⟩
      obtain ⟨y, HY1⟩ : ∃ y, Hid (frL t N k = y) := ⟨_, rfl⟩
      rw [HX1.out] at G1 HO2 HB2
      rw [HY1.out] at G2 HO2 HB2
      go_wp2_with fail
      refine G1.out.mono ?_; rintro e' w' ⟨rfl, hw'⟩
      have hw'' := hw'.symm
      subst hw''
      go_wp2_with fail
      refine G2.out.mono ?_; rintro e' w' ⟨rfl, hw'⟩
      have hw'' := hw'.symm
      subst hw''
      go_wp2
      go_roundw
      case rel => exact ⟨k + 1, by omega, by go_num, HO2, HB2⟩
      case measure => simp [RowKit.intOf]; omega
    · obtain rfl : k = N := by omega
      have hge : (k : Int) ≤ k := Int.le_refl _
      have hout := HO.out
      rw [Nat.sub_self, List.replicate_zero, List.append_nil, List.take_of_length_le (by rw [← HLN.out]; omega)] at hout
      have HF : Hid (MadeL w (bthL s t) (.returned (.slice (some ⟨w.heap.size + 1, 0, none⟩) k k)) wr) := by
        exact ⟨_, _, _, rfl, ls_of_own hout (by omega) (bthL_rng HR1.out HR2.out), own_mono hout (Nat.le_succ _), HW.out.trans (HB.out.mono (Nat.le_succ _))⟩
      clear hout
      go_wp2
      go_ret
      exact HF.out
/-- A slice value reads as a list of lists. -/
structure Lss (w : World) (ao : Option Addr) (n c : Nat) (zss : List (List Int)) : Prop where
  len : zss.length = n
  cap : n ≤ c
  big : n * 8 ≤ 140737488351232
  top : c ≤ maxLen
  mem : 0 < n → ∃ b off, ao = some ⟨b, off, none⟩ ∧ b < w.heap.size ∧ ∀ i, i < n → ∃ ai ni ci, w.cell? ⟨b, off + i, none⟩ = some (.slice ai ni ci) ∧ Ls w ai ni ci (zss.getD i [])
theorem Lss.below {w w' : World} {ao : Option Addr} {n c : Nat} {zss : List (List Int)} (h : Lss w ao n c zss) {B : Nat} (hb : Below B w w') (hB : w.heap.size ≤ B) : Lss w' ao n c zss :=
  ⟨h.len, h.cap, h.big, h.top, fun h0 => by
    obtain ⟨b, off, e, hlt, hc⟩ := h.mem h0
    refine ⟨b, off, e, by have := hb.size; omega, fun i hi => ?_⟩
    obtain ⟨ai, ni, ci, h1, h2⟩ := hc i hi
    exact ⟨ai, ni, ci, (hb.cell (p := ⟨b, off + i, none⟩) (by show b < B; omega)).trans h1, h2.below hb hB⟩⟩
/-- What Cover tells. -/
def cvGo (c : List Int) : List (List Int) → List Int × Int
  | [] => (c, 0)
  | s :: r => if mayE s = 0 then if mayE (bthL c s) = 0 then cvGo (bthL c s) r else ([], 17) else ([], mayE s)
def cvR : List (List Int) → List Int × Int
  | [] => ([], 1)
  | s :: r => if mayE s = 0 then cvGo s r else ([], mayE s)
theorem cvGo_step {c : List Int} {zss : List (List Int)} {k : Nat} (h : k < zss.length) :
    cvGo c (zss.drop k) = if mayE (zss.getD k []) = 0 then if mayE (bthL c (zss.getD k [])) = 0 then cvGo (bthL c (zss.getD k [])) (zss.drop (k + 1)) else ([], 17) else ([], mayE (zss.getD k [])) := by
  rw [List.drop_eq_getElem_cons h]
  simp only [List.getD, List.getElem?_eq_getElem h, Option.getD_some]
  rfl
theorem cvR_step {zss : List (List Int)} (h : 0 < zss.length) : cvR zss = if mayE (zss.getD 0 []) = 0 then cvGo (zss.getD 0 []) (zss.drop 1) else ([], mayE (zss.getD 0 [])) := by
  cases zss with
  | nil => simp at h
  | cons s r => rfl
set_option maxRecDepth 100000 in
set_option maxHeartbeats 800000 in
theorem cover_any {w : World} {ao : Option Addr} {n c : Nat} {zss : List (List Int)} (h : Lss w ao n c zss) :
    Calls Try.prog 22 #[.slice ao n c] w (MadeS w (cvR zss).1 (cvR zss).2) := by
  have hl := h.len
  have g1 := h.big
  obtain ⟨R, HR⟩ : ∃ R, Hid (cvR zss = R) := ⟨_, rfl⟩
  rw [HR.out]
  by_cases h0 : n = 0
  · subst h0
    obtain rfl : R = ([], 1) := by rw [← HR.out, List.eq_nil_of_length_eq_zero hl]; rfl
    clear h hl HR
    go_enter Try.func22, Try.ntmps22
    go_wp2
    go_ret2
    exact MadeS.nil _ (Below.refl _ _)
  have hn0 : ((n : Int) == 0) = false := by simp; omega
  have hn1 : (n == 0) = false := by simp; omega
  have H := Lib.hid h
  have HL := Lib.hid hl
  clear h hl
  go_enter Try.func22, Try.ntmps22
  go_wp2_with fail
  go_loopw [4, 13] (fun v i wr => ∃ (k : Nat) (co : Option Addr) (cn cc : Nat), k ≤ n ∧ i = .int .i64 k ∧ v = .slice co cn cc ∧ Hid (Below w.heap.size w wr) ∧ Hid (0 < k → ∃ cl, Ls wr co cn cc cl ∧ wr.ownsRow w.heap.size 3 1 (.slice co cn cc) cn (cl.map (Value.int .i64)) ∧ mayE cl = 0 ∧ cvGo cl (zss.drop k) = R)) (fun _ i _ => n - (RowKit.intOf i).toNat)
  case atStart => exact ⟨0, none, 0, 0, Nat.zero_le _, rfl, rfl, Below.refl _ _, fun h => absurd h (by omega)⟩
  case round =>
    obtain ⟨k, co, cn, cc, hk, rfl, rfl, HB, HC⟩ := hrel
    by_cases hlt : k < n
    · have hlt' : (k : Int) < n := by omega
      obtain ⟨b, off, rfl, hlb, hcs⟩ := (H.out.below HB.out (Nat.le_refl _)).mem (by omega)
      obtain ⟨ai, ni, ci, d1, hs⟩ := hcs k hlt
      have CM := Lib.hid (may_any hs)
      obtain ⟨s, HS⟩ : ∃ s, Hid (zss.getD k [] = s) := ⟨_, rfl⟩
      rw [HS.out] at CM hs
      have HLS := Lib.hid hs
      clear hcs hlb hs
      by_cases hm : ¬ mayE s = 0
      · have hR : R = ([], mayE s) := by
          by_cases hk0 : 0 < k
          · obtain ⟨cl, -, -, -, h4⟩ := HC.out hk0
            rw [← h4, cvGo_step (by rw [HL.out]; exact hlt), HS.out, if_neg hm]
          · obtain rfl : k = 0 := by omega
            rw [← HR.out, cvR_step (by rw [HL.out]; exact hlt), HS.out, if_neg hm]
        subst hR
        obtain ⟨e, HE⟩ : ∃ e, Hid (mayE s = e) := ⟨_, rfl⟩
        rw [HE.out] at CM hm
        have hm' : (e != 0) = true := by simpa using hm
        have HF : Hid (MadeS w [] (mayE s) (.returned (.tuple #[.slice none 0 0, .int .i64 e])) wr) := by rw [HE.out]; exact MadeS.nil _ HB.out
        clear hm
        go_wp2_with fail
        refine CM.out.mono ?_; rintro e' w' ⟨rfl, hw'⟩
        have hw'' := hw'.symm
        subst hw''
        go_wp2
        go_ret2
        exact HF.out
      have hm : mayE s = 0 := by simpa using hm
      rw [hm] at CM
      by_cases hk0 : ¬ 0 < k
      · obtain rfl : k = 0 := by omega
        rw [Nat.add_zero] at d1
        have HR2 : Hid (cvGo s (zss.drop 1) = R) := by show _ = _; rw [← HR.out, cvR_step (by rw [HL.out]; exact hlt), HS.out, if_pos hm]
        have HMS := Lib.hid hm
        have CC := Lib.hid (clone_any HLS.out)
        clear hm hk0
        go_wp2_with fail
        refine CM.out.mono ?_; rintro e' w' ⟨rfl, hw'⟩
        have hw'' := hw'.symm
        subst hw''
        go_wp2_with fail
        refine CC.out.mono ?_; rintro e' w2 ⟨co2, cc2, rfl, hL2, hO2, hB2⟩
        have HB2 : Hid (Below w.heap.size w w2) := HB.out.trans (hB2.mono HB.out.size)
        have HC2 : Hid (0 < 0 + 1 → ∃ cl, Ls w2 co2 ni cc2 cl ∧ w2.ownsRow w.heap.size 3 1 (.slice co2 ni cc2) ni (cl.map (Value.int .i64)) ∧ mayE cl = 0 ∧ cvGo cl (zss.drop (0 + 1)) = R) := fun _ => ⟨s, hL2, own_mono hO2 HB.out.size, HMS.out, HR2.out⟩
        clear hL2 hO2 hB2
        go_wp2
        go_roundw
        case rel => exact ⟨0 + 1, co2, ni, cc2, by omega, by go_num, rfl, HB2, HC2⟩
        case measure => simp [RowKit.intOf]; omega
      have hk0 : 0 < k := by omega
      obtain ⟨cl, hcl1, hcl2, hcl3, hcl4⟩ := HC.out hk0
      have hk1 : ((k : Int) == 0) = false := by simp; omega
      have hk2 : (k == 0) = false := by simp; omega
      have hstep := cvGo_step (c := cl) (zss := zss) (k := k) (by rw [HL.out]; exact hlt)
      rw [hcl4, HS.out, if_pos hm] at hstep
      have hb1 := (mayE_zero hcl3).2.1
      have hb2 := (mayE_zero hm).2.1
      have CB := Lib.hid (both_any hcl1 HLS.out (by have := hcl1.len; omega) (by have := HLS.out.len; omega))
      clear hcl1 hcl2 hcl3 hcl4 hb1 hb2 hm hk0
      by_cases hq : mayE (bthL cl s) = 0
      · rw [if_pos hq] at hstep
        have HST := Lib.hid hstep
        have HQ := Lib.hid hq
        clear hstep hq
        go_wp2_with fail
        refine CM.out.mono ?_; rintro e' w' ⟨rfl, hw'⟩
        have hw'' := hw'.symm
        subst hw''
        go_wp2_with fail
        refine CB.out.mono ?_; rintro e' w2 ⟨co2, cn2, cc2, rfl, hL2, hO2, hB2⟩
        have CM2 := Lib.hid (may_any hL2)
        rw [HQ.out] at CM2
        have HB2 : Hid (Below w.heap.size w w2) := HB.out.trans (hB2.mono HB.out.size)
        have HC2 : Hid (0 < k + 1 → ∃ cl, Ls w2 co2 cn2 cc2 cl ∧ w2.ownsRow w.heap.size 3 1 (.slice co2 cn2 cc2) cn2 (cl.map (Value.int .i64)) ∧ mayE cl = 0 ∧ cvGo cl (zss.drop (k + 1)) = R) := fun _ => ⟨_, hL2, own_mono hO2 HB.out.size, HQ.out, HST.out.symm⟩
        clear hL2 hO2 hB2
        go_wp2_with fail
        refine CM2.out.mono ?_; rintro e' w' ⟨rfl, hw'⟩
        have hw'' := hw'.symm
        subst hw''
        go_wp2
        go_roundw
        case rel => exact ⟨k + 1, co2, cn2, cc2, by omega, by go_num, rfl, HB2, HC2⟩
        case measure => simp [RowKit.intOf]; omega
      · rw [if_neg hq] at hstep
        subst hstep
        obtain ⟨e, HE⟩ : ∃ e, Hid (mayE (bthL cl s) = e) := ⟨_, rfl⟩
        rw [HE.out] at hq
        have hq' : (e != 0) = true := by simpa using hq
        clear hq
        go_wp2_with fail
        refine CM.out.mono ?_; rintro e' w' ⟨rfl, hw'⟩
        have hw'' := hw'.symm
        subst hw''
        go_wp2_with fail
        refine CB.out.mono ?_; rintro e' w2 ⟨co2, cn2, cc2, rfl, hL2, hO2, hB2⟩
        have CM2 := Lib.hid (may_any hL2)
        rw [HE.out] at CM2
        have HF : Hid (MadeS w [] 17 (.returned (.tuple #[.slice none 0 0, .int .i64 17])) w2) := MadeS.nil _ (HB.out.trans (hB2.mono HB.out.size))
        clear hL2 hO2 hB2
        go_wp2_with fail
        refine CM2.out.mono ?_; rintro e' w' ⟨rfl, hw'⟩
        have hw'' := hw'.symm
        subst hw''
        go_wp2
        go_ret2
        exact HF.out
    · obtain rfl : k = n := by omega
      have hge : (k : Int) ≤ k := Int.le_refl _
      obtain ⟨cl, hcl1, hcl2, hcl3, hcl4⟩ := HC.out (by omega)
      obtain rfl : R = (cl, 0) := by rw [← hcl4, List.drop_of_length_le (by rw [HL.out]; omega)]; rfl
      have HF : Hid (MadeS w cl 0 (.returned (.tuple #[.slice co cn cc, .int .i64 0])) wr) := ⟨_, _, _, rfl, hcl1, hcl2, HB.out⟩
      clear hcl1 hcl2 hcl3 hcl4
      go_wp2
      go_ret2
      exact HF.out
end Go.Proofs.Ytfmabpdkjhlihaa

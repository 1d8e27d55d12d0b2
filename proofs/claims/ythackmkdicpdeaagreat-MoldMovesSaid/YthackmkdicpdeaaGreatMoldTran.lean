/- Contracts of slices.Index and Contains over ints, and of mold.transpose (printed by gen_tran.py). -/
import Derived.Test.YthackmkdicpdeaaGreatMoldTranP
import Derived.Test.YthackmkdicpdeaaGreatMoldResh
namespace Go.Proofs.YthackmkdicpdeaaGreat
open Go.RowKit Go.Lib
set_option linter.unusedVariables false
set_option linter.unusedSimpArgs false
attribute [local go_sem] alloc_drewN setCell_drewN
def IxQ (w : World) (zs : List Int) (v : Int) (e : Ending) (w' : World) : Prop := ∃ r : Int, -1 ≤ r ∧ Hid ((0 ≤ r) = (zs.contains v = true)) ∧ RetS w (.int .i64 r) e w'
set_option maxHeartbeats 400000 in
theorem index6_any {w : World} {ao : Option Addr} {n c : Nat} {zs : List Int} (h : Ls w ao n c zs) (v : Int) :
    Calls Tryz.prog 169 #[.slice ao n c, .int .i64 v] w (IxQ w zs v) := by
  have l1 := Lib.hid h.len
  have g1 := h.big
  have H := Lib.hid h
  clear h
  go_enter Tryz.func169, Tryz.ntmps169
  go_wp2
  go_loop [8] (fun i => ∃ k : Nat, k ≤ n ∧ i = .int .i64 k ∧ Hid (∀ j, j < k → zs.getD j 0 ≠ v)) (fun i => n - (RowKit.intOf i).toNat)
  case atStart => exact ⟨0, Nat.zero_le _, rfl, fun j hj => absurd hj (by omega)⟩
  case round =>
    obtain ⟨k, hk, rfl, hs⟩ := hrel
    by_cases hlt : k < n
    · have hlt' : (k : Int) < n := by omega
      obtain ⟨b1, o1, rfl, hc1⟩ := H.out.at (by omega)
      have d1 := hc1 k hlt
      clear hc1
      obtain ⟨x, HX⟩ : ∃ x, Hid (zs.getD k 0 = x) := ⟨_, rfl⟩
      rw [HX.out] at d1
      by_cases hx : v = x
      · have HF : Hid ((0 ≤ (k : Int)) = (zs.contains v = true)) := by
          show _ = _
          apply propext
          refine ⟨fun _ => ?_, fun _ => by omega⟩
          have h := mem_at (A := zs) (i := k) (by rw [l1.out]; exact hlt)
          rw [HX.out, ← hx] at h
          simpa using h
        have hd : (v == x) = true := by simpa using hx
        clear hx
        go_wp2
        go_ret
        exact ⟨(k : Int), by omega, HF, RetS.mk rfl⟩
      · have hs' : Hid (∀ j, j < k + 1 → zs.getD j 0 ≠ v) := by
          intro j hj
          by_cases e : j = k
          · subst e; rw [HX.out]; exact fun h => hx h.symm
          · exact hs.out j (by omega)
        have hd : (v == x) = false := by simpa using hx
        clear hx
        go_wp2
        go_round
        case rel => exact ⟨k + 1, by omega, by go_num, hs'⟩
        case measure => simp [RowKit.intOf]; omega
    · have hge : (n : Int) ≤ k := by omega
      have HF : Hid ((0 ≤ (-1 : Int)) = (zs.contains v = true)) := by
        show _ = _
        apply propext
        refine ⟨fun h => absurd h (by omega), fun h => ?_⟩
        have hm : v ∈ zs := by simpa using h
        obtain ⟨i, hi, e⟩ := List.mem_iff_getElem.1 hm
        have := hs.out i (by have := l1.out; omega)
        rw [List.getD, List.getElem?_eq_getElem hi, Option.getD_some] at this
        exact absurd e this
      go_wp2
      go_ret
      exact ⟨-1, by omega, HF, RetS.mk rfl⟩
set_option maxHeartbeats 400000 in
theorem contains6_any {w : World} {ao : Option Addr} {n c : Nat} {zs : List Int} (h : Ls w ao n c zs) (v : Int) :
    Calls Tryz.prog 153 #[.slice ao n c, .int .i64 v] w (RetS w (.bool (zs.contains v))) := by
  have A := Lib.hid (index6_any h v)
  clear h
  go_enter Tryz.func153, Tryz.ntmps153
  go_wp2_with fail
  refine A.out.mono ?_; rintro e w' ⟨r, hr, HF, rfl, rfl⟩
  have HD : Hid (decide (0 ≤ r) = zs.contains v) := by
    show _ = _
    have := HF.out
    cases h : zs.contains v
    · rw [h] at this; simpa using this
    · rw [h] at this; simpa using this
  go_wp2
  go_ret
  exact RetS.mk (boolv HD.out)
theorem Sp.zeros6 {F0 : Nat → Prop} {w0 w : World} {L : List Pt} (H : Sp F0 w0 w L) (E : TypeId) (N : Nat) (hN : N ≤ 1000000) : Sp F0 w0 (w.alloc (.cells (Array.replicate N (.int .i64 0)) E)) (L ++ [Pt.ints E (some ⟨w.heap.size, 0, none⟩) N N (List.replicate N 0)]) :=
  H.intsNew (own_zeros w E N w.heap.size hN (Nat.le_refl _)) (abal _ _) (by omega) (fun i => by simp only [List.getD, List.getElem?_replicate]; split <;> simp)
theorem puL_rng {A t : List Int} {k : Nat} (h : ∀ i, -9223372036854775808 ≤ t.getD i 0 ∧ t.getD i 0 ≤ 9223372036854775807) : ∀ i j, -9223372036854775808 ≤ (puL A t k i).getD j 0 ∧ (puL A t k i).getD j 0 ≤ 9223372036854775807
  | 0, j => by simp only [puL, List.getD, List.getElem?_replicate]; split <;> simp
  | i + 1, j => by
    simp only [puL, List.getD, List.getElem?_set]
    split
    · split
      · simpa using h i
      · simp
    · exact puL_rng h i j
set_option maxRecDepth 100000 in
set_option maxHeartbeats 3200000 in
theorem transpose1_any {w0 W : World} (hb : Below w0.heap.size w0 W) {F : Nat → Prop} (hF : ∀ g, F g → w0.heap.size ≤ g) {gk ga gy : Nat} {ao ta : Option Addr} {ac tn tc : Nat} {A s : List Int} (hgk : gk < w0.heap.size) (hga : ga < w0.heap.size) (hgy : gy < w0.heap.size) (hck : w0.cell? ⟨gk, 0, none⟩ = some (.int .i64 (tn : Int))) (hca : w0.cell? ⟨ga, 0, none⟩ = some (.slice ao tn ac)) (hcy : w0.cell? ⟨gy, 0, none⟩ = some (.slice ta tn tc)) (hA : Ls w0 ao tn ac A) (hY : Ls w0 ta tn tc s)
    (hm : mayE (tpS A s) = 0) (hr : ∀ n ∈ A, 0 ≤ n ∧ n < (tn : Int)) {xo : Option Addr} {xn xc k : Nat} (hk : (k : Int) < pr (tpS A s)) (hx : (Pt.ints 3 xo xn xc (ixL (tpS A s) k)).P W F) :
    Calls Tryz.prog 154 #[.slice xo xn xc, .pointer (some ⟨gk, 0, none⟩), .pointer (some ⟨ga, 0, none⟩), .pointer (some ⟨gy, 0, none⟩)] W (PlQ F W (tpF A s k)) := by
  have hp0 := Sp.one hx
  have hls := hp0.ls (i := 0) rfl
  have hxl : (ixL (tpS A s) k).length = xn := hls.len
  have hil := ixL_len (tpS A s) (k : Int)
  have hl8 := (mayE_zero hm).2.1
  have hal : A.length = tn := hA.len
  have hsl : s.length = tn := hY.len
  have htl : (tpS A s).length = tn := by simp [tpS, hal]
  have hxn : xn = tn := by omega
  subst hxn
  have hxn8 : xn ≤ 8 := by omega
  have H0 := hp0.toRow (i := 0) rfl
  have HRG := Lib.hid (ixL_rg hm hk)
  have HE : Hid (tpF A s k = atF s (puL A (ixL (tpS A s) k) xn xn)) := by show _ = _; unfold tpF; rw [hsl, hal]
  rw [HE.out]
  obtain ⟨t, HT⟩ : ∃ z, Hid (ixL (tpS A s) k = z) := ⟨_, rfl⟩
  rw [HT.out] at hxl HRG H0 ⊢
  have H0' := Lib.hid H0
  have hmk := fun w => mk_int xn (by omega) w
  have HB := Lib.hid hb
  have HF := Lib.hid hF
  have HAA := Lib.hid hA
  have HYY := Lib.hid hY
  have HR := Lib.hid hr
  have HAL := Lib.hid (And.intro hal hxl)
  have d0 := (hb.cell (p := ⟨gk, 0, none⟩) hgk).trans hck
  have HCA := Lib.hid (And.intro hca hcy)
  have hz := Sp.zeros6 H0 3 xn (by omega)
  have hz2 := hz.toRow (i := 1) rfl
  have HST : Hid (Sp F W (W.alloc (.cells (Array.replicate xn (.int .i64 0)) 3)) [Pt.row ⟨3, 1, xo, xn, xc, t.map (Value.int .i64)⟩, Pt.row ⟨3, 1, some ⟨W.heap.size, 0, none⟩, xn, xn, (puL A t xn 0).map (Value.int .i64)⟩]) := hz2
  obtain ⟨gf, HGF⟩ : ∃ z, Hid (W.heap.size = z) := ⟨_, rfl⟩
  rw [HGF.out] at HST
  have e0 := (HB.out.trans (HST.out.below HF.out HB.out.size)).cell (p := ⟨ga, 0, none⟩) hga
  have e1 : (W.alloc (.cells (Array.replicate xn (.int .i64 0)) 3)).cell? ⟨ga, 0, none⟩ = some (.slice ao xn ac) := e0.trans hca
  clear hb hF hx hA hY hp0 hls H0 hxl hil HE HT hm hk hl8 hck hca hcy hr hal hsl htl hz hz2 e0
  go_enter Tryz.func154, Tryz.ntmps154
  go_wp2_with fail
  rw [HGF.out]
  go_loopw [13] (fun v wr => ∃ i : Nat, i ≤ xn ∧ v = .int .i64 i ∧ Hid (Sp F W wr [Pt.row ⟨3, 1, xo, xn, xc, t.map (Value.int .i64)⟩, Pt.row ⟨3, 1, some ⟨gf, 0, none⟩, xn, xn, (puL A t xn i).map (Value.int .i64)⟩])) (fun v _ => xn - (RowKit.intOf v).toNat)
  case atStart => exact ⟨0, Nat.zero_le _, rfl, HST⟩
  case round =>
    clear HST d0 e1 H0'
    obtain ⟨i, hi, rfl, HO⟩ := hrel
    have HBW := Lib.hid (HB.out.trans (HO.out.below HF.out HB.out.size))
    by_cases hlt : i < xn
    · have hlt' : (i : Int) < xn := by omega
      obtain ⟨bx, ox, ex, hcx1⟩ := (HAA.out.below HBW.out (Nat.le_refl _)).at (by omega)
      have d1 := hcx1 i hlt
      have hrn := HR.out _ (mem_at (A := A) (i := i) (by rw [HAL.out.1]; exact hlt))
      subst ex
      have hpl := puL_len A t xn i
      obtain ⟨n, hn⟩ : ∃ n : Nat, A.getD i 0 = (n : Int) := ⟨(A.getD i 0).toNat, by omega⟩
      have hsx : (puL A t xn i).set n (t.getD i 0) = puL A t xn (i + 1) := by rw [puL, hn, Int.toNat_natCast]
      rw [hn] at d1 hrn
      obtain ⟨c1, c2, c3, c4, c5⟩ := HO.out.rcap (i := 0) rfl
      obtain ⟨go, rfl⟩ := c5 (by omega)
      have t0 := HO.out.cell (i := 0) rfl i (.int .i64 (t.getD i 0)) (by rw [getD_map_int _ _ (by rw [HAL.out.2]; exact hlt)])
      have t1 := HO.out.cell (i := 1) rfl n (.int .i64 ((puL A t xn i).getD n 0)) (by rw [getD_map_int _ _ (by rw [hpl]; omega)])
      have t2 := HO.out.frozen (i := 1) rfl n
      have HPUT : Hid (Sp F W (wr.setCell ⟨gf, n, none⟩ (.int .i64 (t.getD i 0))) [Pt.row ⟨3, 1, some ⟨go, 0, none⟩, xn, xc, t.map (Value.int .i64)⟩, Pt.row ⟨3, 1, some ⟨gf, 0, none⟩, xn, xn, (puL A t xn (i + 1)).map (Value.int .i64)⟩]) := by
        have h2 := HO.out.put (i := 1) rfl n (.int .i64 (t.getD i 0))
        rw [← List.map_set, hsx] at h2
        exact h2
      have hnx : (n : Int) < xn := hrn.2
      have hixc : (i : Int) < xc := by omega
      obtain ⟨ti, HTI⟩ : ∃ z, Hid (t.getD i 0 = z) := ⟨_, rfl⟩
      rw [HTI.out] at t0 HPUT
      obtain ⟨oi, HOI⟩ : ∃ z, Hid ((puL A t xn i).getD n 0 = z) := ⟨_, rfl⟩
      rw [HOI.out] at t1
      clear hcx1 hrn hn hsx c1 c2 c3 c4 c5 HO HBW hpl HOI HTI
      go_wp2_with fail
      go_roundw
      case rel => exact ⟨i + 1, by omega, by go_num, HPUT⟩
      case measure => simp [RowKit.intOf]; omega
    · obtain rfl : i = xn := by omega
      have hge : ¬ ((i : Int) < i) := by omega
      have hrow := (HO.out.toInts (i := 1) (zs := puL A t i i) rfl (by omega) (fun j => puL_rng HRG.out i j)).ls (i := 1) rfl
      have C := Lib.hid (at6_any (HYY.out.below HBW.out (Nat.le_refl _)) hrow)
      have e1 := (HBW.out.cell (p := ⟨gy, 0, none⟩) hgy).trans HCA.out.2
      have HQ := Lib.hid HO.out.out
      clear hrow HO
      go_wp2_with fail
      refine C.out.mono ?_; rintro e w' ⟨rfl, hw'⟩
      have hw'' := hw'.symm
      subst hw''
      go_wp2
      go_ret
      exact ⟨rfl, HQ.out⟩
def trE (x s : List Int) : Int := if (trG s.length x []).1 = 0 then mdE (tpS (trA s.length (trG s.length x []).2) s) else (trG s.length x []).1
def trS (x s : List Int) : List Int := if (trG s.length x []).1 = 0 then mdS (tpS (trA s.length (trG s.length x []).2) s) else []
def trZ (x s b : List Int) : List Int := if (trG s.length x []).1 = 0 then pkA (tpS (trA s.length (trG s.length x []).2) s) b (tpF (trA s.length (trG s.length x []).2) s) else []
theorem ls_cons6 (x : Int) (xs : List Int) (N : List Int) (k : Int) (n : Int) (h : n = x) : trG k (x :: xs) N = if n < -k ∨ k ≤ n then (13, N) else if N.contains (nmd k n) = true then (10, N) else trG k xs (N ++ [nmd k n]) := by subst h; rfl
theorem trX_succ (k : Nat) (N : List Int) : trX (k + 1) N = trX k N ++ if N.contains (k : Int) = true then [] else [(k : Int)] := by
  unfold trX
  rw [rgI_succ, List.filter_append]
  congr 1
  by_cases h : N.contains (k : Int) = true
  · rw [if_pos h]; simp at h; simp [h]
  · rw [if_neg h]; simp at h; simp [h]
theorem trX_len (k : Nat) (N : List Int) : (trX k N).length ≤ k := by
  unfold trX
  have := List.length_filter_le (fun i => !N.contains i) (rgI k)
  rw [rgI_len] at this
  exact this
theorem trA_rng {k : Nat} {N : List Int} (hN : N.Nodup) (hr : ∀ n ∈ N, 0 ≤ n ∧ n < (k : Int)) : (trA k N).length = k ∧ ∀ n ∈ trA k N, 0 ≤ n ∧ n < (k : Int) := by
  have h := (trA_perm hN hr).1
  exact ⟨by rw [h.length_eq, rgI_len], fun n hn => rgI_mem.1 (h.mem_iff.1 hn)⟩
theorem nodup_len {k : Nat} {N : List Int} (hN : N.Nodup) (hr : ∀ n ∈ N, 0 ≤ n ∧ n < (k : Int)) : N.length ≤ k := by
  have h := hN.length_le_of_subset (l₂ := rgI k) fun n hn => rgI_mem.2 (hr n hn)
  rwa [rgI_len] at h
set_option maxRecDepth 100000 in
set_option maxHeartbeats 6400000 in
theorem transpose_any {w : World} {X Y : Ar} (hX : X.Is w) (hY : Y.Is w) (hxn : X.an ≤ 4096) (hm : amE Y.s Y.a = 0) : Calls Tryz.prog 116 #[X.v, Y.v] w (MadeE w (trS X.a Y.s) (trZ X.a Y.s Y.a) (trE X.a Y.s)) := by
  obtain ⟨sa, sn, sc, aa, an, ac, s', x⟩ := X
  obtain ⟨ta, tn, tc, ba, bn, bc, s, b⟩ := Y
  simp only [Ar.v]
  simp only at hxn hm
  obtain ⟨hm1, hm2⟩ := amE_zero hm
  have hxl : x.length = an := hX.ats.len
  have hsl : s.length = tn := hY.shp.len
  have hs8 := (mayE_zero hm1).2.1
  obtain ⟨RE, HRE⟩ : ∃ z, Hid (z = trE x s) := ⟨_, rfl⟩
  obtain ⟨RS, HRS⟩ : ∃ z, Hid (z = trS x s) := ⟨_, rfl⟩
  obtain ⟨RA, HRA⟩ : ∃ z, Hid (z = trZ x s b) := ⟨_, rfl⟩
  rw [← HRE.out, ← HRS.out, ← HRA.out]
  have HBAD : Hid (∀ c N, c ≠ 0 → trG s.length x [] = (c, N) → RE = c ∧ RS = [] ∧ RA = []) := fun c N hc h => by
    rw [HRE.out, HRS.out, HRA.out]
    unfold trE trS trZ
    rw [h]
    exact ⟨if_neg hc, if_neg hc, if_neg hc⟩
  have HGOOD : Hid (∀ N, trG s.length x [] = (0, N) → RE = mdE (tpS (trA s.length N) s) ∧ RS = mdS (tpS (trA s.length N) s) ∧ RA = pkA (tpS (trA s.length N) s) b (tpF (trA s.length N) s)) := fun N h => by
    rw [HRE.out, HRS.out, HRA.out]
    unfold trE trS trZ
    rw [h]
    exact ⟨if_pos rfl, if_pos rfl, if_pos rfl⟩
  have htn8 : tn ≤ 8 := by omega
  have h0 := ((((Sp.start Non w).alloc 38 2 1 #[.slice sa sn sc, .slice aa an ac] rfl (by decide)).alloc 38 2 1 #[.slice ta tn tc, .slice ba bn bc] rfl (by decide)).alloc 38 2 1 #[.slice none 0 0, .slice none 0 0] rfl (by decide)).alloc 2 1 1 #[.int .i64 (tn : Int)] rfl (by decide)
  obtain ⟨W, HW⟩ : ∃ z, Hid ((((w.alloc (.cells #[.slice sa sn sc, .slice aa an ac] 38)).alloc (.cells #[.slice ta tn tc, .slice ba bn bc] 38)).alloc (.cells #[.slice none 0 0, .slice none 0 0] 38)).alloc (.cells #[.int .i64 (tn : Int)] 2) = z) := ⟨_, rfl⟩
  rw [HW.out] at h0
  have H1_ := h0.intsNew (E := 3) (zs := []) (World.ownsRow_nil _ _ _ _) (Below.refl _ _) (by omega) (fun i => by simp [List.getD])
  try simp only [List.cons_append, List.nil_append, List.set_cons_zero, List.set_cons_succ, List.map_cons, List.map_nil, List.getD_cons_zero, List.getD_cons_succ, World.size_alloc] at H1_
  have H1 := Lib.hid H1_
  clear H1_
  obtain ⟨b1, HB1⟩ : ∃ z, Hid (w.heap.size = z) := ⟨_, rfl⟩
  rw [HB1.out] at H1
  have HX := Lib.hid hX
  have HY := Lib.hid hY
  have HM := Lib.hid hm
  have HL := Lib.hid (And.intro hxl hsl)
  have hmk := fun w => mk_int tn (by omega) w
  have hmf : ∀ (fn : Fn) (first cap : Array Value) (w : World), (Instr.makeFunc fn first cap).run Tryz.prog w = .ok (.func fn first cap) w := fun _ _ _ _ => rfl
  obtain ⟨i0, hi0, hza, hzb, hzc⟩ := info_parts (P := Tryz.prog) (e := 3) (z := .int .i64 0) (size := 1) (bytes := 8) (by kernel_rfl)
  have HI0 := Lib.hid (And.intro hi0 (And.intro hza (And.intro hzb hzc)))
  have x0 := H1.out.cell (i := 0) rfl 1 _ rfl
  clear hX hY h0 hm hm1 hm2 hxl hsl hs8 HRE HRS HRA hi0 hza hzb hzc
  go_enter Tryz.func116, Tryz.ntmps116
  go_upto_region 3 with fail
  rw [HW.out, HB1.out]
  go_wp2_with fail
  go_loopw [7, 21] (fun v7 v21 wr => ∃ (i : Nat) (N : List Int) (no : Option Addr) (nn nc : Nat), i ≤ an ∧ v21 = .int .i64 i ∧ v7 = .slice no nn nc ∧ Hid (trG s.length x [] = trG s.length (x.drop i) N ∧ N.Nodup ∧ ∀ n ∈ N, 0 ≤ n ∧ n < (tn : Int)) ∧ Hid (Sp Non w wr [Pt.row ⟨38, 2, some ⟨b1, 0, none⟩, 1, 1, [.slice sa sn sc, .slice aa an ac]⟩, Pt.row ⟨38, 2, some ⟨b1 + 1, 0, none⟩, 1, 1, [.slice ta tn tc, .slice ba bn bc]⟩, Pt.row ⟨38, 2, some ⟨b1 + 1 + 1, 0, none⟩, 1, 1, [.slice none 0 0, .slice none 0 0]⟩, Pt.row ⟨2, 1, some ⟨b1 + 1 + 1 + 1, 0, none⟩, 1, 1, [.int .i64 (tn : Int)]⟩, Pt.ints 3 no nn nc N])) (fun _ v21 _ => an - (RowKit.intOf v21).toNat)
  case atStart => exact ⟨0, [], none, 0, 0, Nat.zero_le _, rfl, rfl, ⟨by rw [List.drop_zero], by simp, by simp⟩, H1⟩
  case round =>
    clear H1 x0
    obtain ⟨i, N, no, nn, nc, hi, rfl, rfl, HG, HO⟩ := hrel
    have hNl : N.length = nn := (HO.out.ls (i := 4) rfl).len
    have hNb := nodup_len HG.out.2.1 HG.out.2.2
    by_cases hlt : i < an
    · have hlt' : (i : Int) < an := by omega
      obtain ⟨b2, o2, e2, hc2⟩ := (HX.out.below HO.out.belowN (Nat.le_refl _)).ats.at (by simp only; omega)
      have d1 := hc2 i hlt
      simp only at e2 d1
      subst e2
      have hxr := HX.out.ats.rng i
      simp only at hxr
      have hdr : x.drop i = x.getD i 0 :: x.drop (i + 1) := by
        rw [List.drop_eq_getElem_cons (by rw [HL.out.1]; exact hlt)]
        simp [List.getD, List.getElem?_eq_getElem (show i < x.length by rw [HL.out.1]; exact hlt)]
      have hgo := HG.out.1
      rw [hdr] at hgo
      obtain ⟨n, HN⟩ : ∃ z, Hid (x.getD i 0 = z) := ⟨_, rfl⟩
      rw [HN.out] at d1 hxr hgo
      rw [trG] at hgo
      have HGO := Lib.hid hgo
      have k0 := HO.out.cell (i := 3) rfl 0 _ rfl
      have w1 : IntKind.i64.wrap (-(tn : Int)) = -(tn : Int) := IntWalk.i64_in _ (by omega)
      clear hc2 hdr hgo HN
      by_cases hbad : n < -(tn : Int) ∨ (tn : Int) ≤ n
      · have hr1 := HGO.out
        rw [HL.out.2, if_pos hbad] at hr1
        obtain ⟨r1, r2, r3⟩ := HBAD.out 13 N (by decide) (by rw [HL.out.2]; exact hr1)
        subst r1 r2 r3
        have f0 := HO.out.frozen (i := 2) rfl 0
        have f1 := HO.out.frozen (i := 2) rfl 1
        have p0 := HO.out.cell (i := 2) rfl 0 _ rfl
        have p1 := HO.out.cell (i := 2) rfl 1 _ rfl
        have HF : Hid (∀ u v, MadeE w [] [] 13 (.returned (.tuple #[.agg #[.slice none 0 0, .slice none 0 0], .int .i64 13])) ((wr.setCell ⟨b1 + 1 + 1, 0, none⟩ u).setCell ⟨b1 + 1 + 1, 1, none⟩ v)) := fun u v =>
          made_nil 13 ((HO.out.put (i := 2) rfl 0 u).put (i := 2) rfl 1 v).belowN
        have hbad2 : n < -(tn : Int) ∨ ¬ n < -(tn : Int) ∧ (tn : Int) ≤ n := by omega
        clear hr1 HBAD HGOOD HGO HG HO hbad
        rcases hbad2 with h9 | ⟨h8, h9⟩
        · have q1 : decide (n < -(tn : Int)) = true := by simpa using h9
          clear h9
          go_wp2
          exact bodyPost_ret (v := .tuple #[.agg #[.slice none 0 0, .slice none 0 0], .int .i64 13]) (by simp [results, Tryz.results116, go_sem, *]) rfl (HF.out _ _)
        · have q1 : decide (n < -(tn : Int)) = false := by simpa using h8
          have q2 : decide ((tn : Int) ≤ n) = true := by simpa using h9
          clear h8 h9
          go_wp2
          exact bodyPost_ret (v := .tuple #[.agg #[.slice none 0 0, .slice none 0 0], .int .i64 13]) (by simp [results, Tryz.results116, go_sem, *]) rfl (HF.out _ _)
      · have q1 : decide (n < -(tn : Int)) = false := by simp; omega
        have q2 : decide ((tn : Int) ≤ n) = false := by simp; omega
        have HBD : Hid (-(tn : Int) ≤ n ∧ n < tn) := by show _ ∧ _; omega
        have hr1 := HGO.out
        rw [HL.out.2, if_neg hbad] at hr1
        have HR1 := Lib.hid hr1
        have hv : 0 ≤ nmd (tn : Int) n ∧ nmd (tn : Int) n < tn := by unfold nmd; split <;> omega
        have HNV : Hid (nmd (tn : Int) n = if n < 0 then n + tn else n) := rfl
        obtain ⟨v, HV⟩ : ∃ z, Hid (nmd (tn : Int) n = z) := ⟨_, rfl⟩
        rw [HV.out] at hv HR1 HNV
        clear hr1 hbad HGO HV
        by_cases h0 : n < 0
        · have q3 : decide (n < 0) = true := by simpa using h0
          have q4 : IntKind.i64.wrap (n + (tn : Int)) = v := by
            have h5 := HNV.out
            rw [if_pos h0] at h5
            rw [IntWalk.i64_in _ (by omega), h5]
          clear h0
          have CC := Lib.hid (contains6_any (HO.out.ls (i := 4) rfl) v)
          by_cases hc : N.contains v = true
          · have hr1 := HR1.out
            rw [if_pos hc] at hr1
            obtain ⟨r1, r2, r3⟩ := HBAD.out 10 N (by decide) (by rw [HL.out.2]; exact hr1)
            subst r1 r2 r3
            rw [hc] at CC
            have f0 := HO.out.frozen (i := 2) rfl 0
            have f1 := HO.out.frozen (i := 2) rfl 1
            have p0 := HO.out.cell (i := 2) rfl 0 _ rfl
            have p1 := HO.out.cell (i := 2) rfl 1 _ rfl
            have HF : Hid (∀ u v, MadeE w [] [] 10 (.returned (.tuple #[.agg #[.slice none 0 0, .slice none 0 0], .int .i64 10])) ((wr.setCell ⟨b1 + 1 + 1, 0, none⟩ u).setCell ⟨b1 + 1 + 1, 1, none⟩ v)) := fun u v =>
              made_nil 10 ((HO.out.put (i := 2) rfl 0 u).put (i := 2) rfl 1 v).belowN
            clear hr1 HBAD HGOOD HG HO hc HR1
            go_wp2_with fail
            refine CC.out.mono ?_; rintro e w' ⟨rfl, hw'⟩
            have hw'' := hw'.symm
            subst hw''
            go_wp2
            exact bodyPost_ret (v := .tuple #[.agg #[.slice none 0 0, .slice none 0 0], .int .i64 10]) (by simp [results, Tryz.results116, go_sem, *]) rfl (HF.out _ _)
          · have hc' : N.contains v = false := by simpa using hc
            have hr1 := HR1.out
            rw [if_neg hc] at hr1
            have hnm : v ∉ N := by simpa using hc
            have HG2 : Hid (trG s.length x [] = trG s.length (x.drop (i + 1)) (N ++ [v]) ∧ (N ++ [v]).Nodup ∧ ∀ n ∈ N ++ [v], 0 ≤ n ∧ n < (tn : Int)) := by
              refine ⟨by rw [HL.out.2]; exact hr1, ?_, fun m hm => ?_⟩
              · rw [List.nodup_append]
                exact ⟨HG.out.2.1, by simp, fun a ha b hb => by simp only [List.mem_singleton] at hb; rintro rfl; exact hnm (hb ▸ ha)⟩
              · rcases List.mem_append.1 hm with h | h
                · exact HG.out.2.2 m h
                · simp only [List.mem_singleton] at h; subst h; exact hv
            rw [hc'] at CC
            have HV2 := Lib.hid (HO.out.via (abal wr (.cells #[.int .i64 v] 3)))
            have hb1 : (nn + 1) * 8 ≤ 140737488351232 := by omega
            have hvr : -9223372036854775808 ≤ v ∧ v ≤ 9223372036854775807 := by omega
            clear hr1 hc hnm HG HR1 HO
            go_wp2_with fail
            refine CC.out.mono ?_; rintro e w' ⟨rfl, hw'⟩
            have hw'' := hw'.symm
            subst hw''
            clear CC hw'
            go_wp2_with (at_builtin; refine Sp.wpList_loc (i := 4) HV2.out rfl _ _ 25 rfl 3 i0 Tryz.underlying25 HI0.out.1 HI0.out.2.1 HI0.out.2.2.1 HI0.out.2.2.2 rfl rfl rfl (ls_lit6 _ _ hvr) hb1 ?_)
            intro b9 d9 w9 h9
            have HNX := Lib.hid h9
            clear h9 HV2
            go_wp2_with fail
            go_roundw
            case rel => exact ⟨i + 1, N ++ [v], b9, nn + 1, d9, by omega, by go_num, rfl, HG2, HNX⟩
            case measure => simp [RowKit.intOf]; omega
        · have q3 : decide (n < 0) = false := by simpa using h0
          have h5 := HNV.out
          rw [if_neg h0] at h5
          subst h5
          clear h0
          have CC := Lib.hid (contains6_any (HO.out.ls (i := 4) rfl) v)
          by_cases hc : N.contains v = true
          · have hr1 := HR1.out
            rw [if_pos hc] at hr1
            obtain ⟨r1, r2, r3⟩ := HBAD.out 10 N (by decide) (by rw [HL.out.2]; exact hr1)
            subst r1 r2 r3
            rw [hc] at CC
            have f0 := HO.out.frozen (i := 2) rfl 0
            have f1 := HO.out.frozen (i := 2) rfl 1
            have p0 := HO.out.cell (i := 2) rfl 0 _ rfl
            have p1 := HO.out.cell (i := 2) rfl 1 _ rfl
            have HF : Hid (∀ u v, MadeE w [] [] 10 (.returned (.tuple #[.agg #[.slice none 0 0, .slice none 0 0], .int .i64 10])) ((wr.setCell ⟨b1 + 1 + 1, 0, none⟩ u).setCell ⟨b1 + 1 + 1, 1, none⟩ v)) := fun u v =>
              made_nil 10 ((HO.out.put (i := 2) rfl 0 u).put (i := 2) rfl 1 v).belowN
            clear hr1 HBAD HGOOD HG HO hc HR1
            go_wp2_with fail
            refine CC.out.mono ?_; rintro e w' ⟨rfl, hw'⟩
            have hw'' := hw'.symm
            subst hw''
            go_wp2
            exact bodyPost_ret (v := .tuple #[.agg #[.slice none 0 0, .slice none 0 0], .int .i64 10]) (by simp [results, Tryz.results116, go_sem, *]) rfl (HF.out _ _)
          · have hc' : N.contains v = false := by simpa using hc
            have hr1 := HR1.out
            rw [if_neg hc] at hr1
            have hnm : v ∉ N := by simpa using hc
            have HG2 : Hid (trG s.length x [] = trG s.length (x.drop (i + 1)) (N ++ [v]) ∧ (N ++ [v]).Nodup ∧ ∀ n ∈ N ++ [v], 0 ≤ n ∧ n < (tn : Int)) := by
              refine ⟨by rw [HL.out.2]; exact hr1, ?_, fun m hm => ?_⟩
              · rw [List.nodup_append]
                exact ⟨HG.out.2.1, by simp, fun a ha b hb => by simp only [List.mem_singleton] at hb; rintro rfl; exact hnm (hb ▸ ha)⟩
              · rcases List.mem_append.1 hm with h | h
                · exact HG.out.2.2 m h
                · simp only [List.mem_singleton] at h; subst h; exact hv
            rw [hc'] at CC
            have HV2 := Lib.hid (HO.out.via (abal wr (.cells #[.int .i64 v] 3)))
            have hb1 : (nn + 1) * 8 ≤ 140737488351232 := by omega
            have hvr : -9223372036854775808 ≤ v ∧ v ≤ 9223372036854775807 := by omega
            clear hr1 hc hnm HG HR1 HO
            go_wp2_with fail
            refine CC.out.mono ?_; rintro e w' ⟨rfl, hw'⟩
            have hw'' := hw'.symm
            subst hw''
            clear CC hw'
            go_wp2_with (at_builtin; refine Sp.wpList_loc (i := 4) HV2.out rfl _ _ 25 rfl 3 i0 Tryz.underlying25 HI0.out.1 HI0.out.2.1 HI0.out.2.2.1 HI0.out.2.2.2 rfl rfl rfl (ls_lit6 _ _ hvr) hb1 ?_)
            intro b9 d9 w9 h9
            have HNX := Lib.hid h9
            clear h9 HV2
            go_wp2_with fail
            go_roundw
            case rel => exact ⟨i + 1, N ++ [v], b9, nn + 1, d9, by omega, by go_num, rfl, HG2, HNX⟩
            case measure => simp [RowKit.intOf]; omega
    · obtain rfl : an = i := by omega
      have hge : ¬ ((an : Int) < an) := by omega
      have hg1 := HG.out.1
      rw [List.drop_of_length_le (by rw [HL.out.1]; exact Nat.le_refl _)] at hg1
      obtain ⟨r1, r2, r3⟩ := HGOOD.out N hg1
      have HRR : Hid (RE = mdE (tpS (trA tn N) s) ∧ RS = mdS (tpS (trA tn N) s) ∧ RA = pkA (tpS (trA tn N) s) b (tpF (trA tn N) s)) := by rw [HL.out.2] at r1 r2 r3; exact ⟨r1, r2, r3⟩
      have HNN := Lib.hid HG.out.2
      clear hg1 r1 r2 r3 HG HBAD HGOOD
      have H2_ := (HO.out.alloc 25 1 1 #[.slice none 0 0] rfl (by decide)).intsNew (E := 3) (zs := []) (World.ownsRow_nil _ _ _ _) (Below.refl _ _) (by omega) (fun i => by simp [List.getD])
      try simp only [List.cons_append, List.nil_append, List.set_cons_zero, List.set_cons_succ, List.map_cons, List.map_nil, List.getD_cons_zero, List.getD_cons_succ, World.size_alloc] at H2_
      have H2 := Lib.hid H2_
      clear H2_
      obtain ⟨gA, HGA⟩ : ∃ z, Hid (wr.heap.size = z) := ⟨_, rfl⟩
      rw [HGA.out] at H2
      have k0 : (wr.alloc (.cells #[.slice none 0 0] 25)).cell? ⟨b1 + 1 + 1 + 1, 0, none⟩ = some (.int .i64 (tn : Int)) := H2.out.cell (i := 3) rfl 0 _ rfl
      clear HO hlt hi
      go_wp2_with fail
      rw [HGA.out]
      go_loopw [50] (fun v wr => ∃ (i : Nat) (qo : Option Addr) (m qc : Nat), i ≤ tn ∧ v = .int .i64 i ∧ Hid (Sp Non w wr [Pt.row ⟨38, 2, some ⟨b1, 0, none⟩, 1, 1, [.slice sa sn sc, .slice aa an ac]⟩, Pt.row ⟨38, 2, some ⟨b1 + 1, 0, none⟩, 1, 1, [.slice ta tn tc, .slice ba bn bc]⟩, Pt.row ⟨38, 2, some ⟨b1 + 1 + 1, 0, none⟩, 1, 1, [.slice none 0 0, .slice none 0 0]⟩, Pt.row ⟨2, 1, some ⟨b1 + 1 + 1 + 1, 0, none⟩, 1, 1, [.int .i64 (tn : Int)]⟩, Pt.ints 3 no nn nc N, Pt.row ⟨25, 1, some ⟨gA, 0, none⟩, 1, 1, [.slice qo m qc]⟩, Pt.ints 3 qo m qc (trX i N)])) (fun v _ => tn - (RowKit.intOf v).toNat)
      case atStart => exact ⟨0, none, 0, 0, Nat.zero_le _, rfl, H2⟩
      case round =>
        clear H2 k0
        obtain ⟨i, qo, m, qc, hi, rfl, HO⟩ := hrel
        have hml := (HO.out.ls (i := 6) rfl).len
        have hxl := trX_len i N
        have y0 := HO.out.cell (i := 5) rfl 0 _ rfl
        by_cases hlt : i < tn
        · have hlt' : (i : Int) < tn := by omega
          have CC := Lib.hid (contains6_any (HO.out.ls (i := 4) rfl) (i : Int))
          have hxs := trX_succ i N
          by_cases hc : N.contains (i : Int) = true
          · rw [if_pos hc, List.append_nil] at hxs
            rw [hc] at CC
            have HNX : Hid (Sp Non w wr [Pt.row ⟨38, 2, some ⟨b1, 0, none⟩, 1, 1, [.slice sa sn sc, .slice aa an ac]⟩, Pt.row ⟨38, 2, some ⟨b1 + 1, 0, none⟩, 1, 1, [.slice ta tn tc, .slice ba bn bc]⟩, Pt.row ⟨38, 2, some ⟨b1 + 1 + 1, 0, none⟩, 1, 1, [.slice none 0 0, .slice none 0 0]⟩, Pt.row ⟨2, 1, some ⟨b1 + 1 + 1 + 1, 0, none⟩, 1, 1, [.int .i64 (tn : Int)]⟩, Pt.ints 3 no nn nc N, Pt.row ⟨25, 1, some ⟨gA, 0, none⟩, 1, 1, [.slice qo m qc]⟩, Pt.ints 3 qo m qc (trX (i + 1) N)]) := by
              show Sp _ _ _ _
              rw [hxs]; exact HO.out
            clear hxs hc HO
            go_wp2_with fail
            refine CC.out.mono ?_; rintro e w' ⟨rfl, hw'⟩
            have hw'' := hw'.symm
            subst hw''
            go_wp2_with fail
            go_roundw
            case rel => exact ⟨i + 1, qo, m, qc, by omega, by go_num, HNX⟩
            case measure => simp [RowKit.intOf]; omega
          · have hc' : N.contains (i : Int) = false := by simpa using hc
            rw [if_neg hc] at hxs
            rw [hc'] at CC
            have HXS := Lib.hid hxs
            have HV2 := Lib.hid (HO.out.via (abal wr (.cells #[.int .i64 (i : Int)] 3)))
            have hb1 : (m + 1) * 8 ≤ 140737488351232 := by omega
            have hvr : -9223372036854775808 ≤ (i : Int) ∧ (i : Int) ≤ 9223372036854775807 := by omega
            clear hxs hc HO
            go_wp2_with fail
            refine CC.out.mono ?_; rintro e w' ⟨rfl, hw'⟩
            have hw'' := hw'.symm
            subst hw''
            clear CC hw'
            go_wp2_with (at_builtin; refine Sp.wpList_loc (i := 6) HV2.out rfl _ _ 25 rfl 3 i0 Tryz.underlying25 HI0.out.1 HI0.out.2.1 HI0.out.2.2.1 HI0.out.2.2.2 rfl rfl rfl (ls_lit6 _ _ hvr) hb1 ?_)
            intro b9 d9 w9 h9
            have p0 := h9.cell (i := 5) rfl 0 _ rfl
            have f0 := h9.frozen (i := 5) rfl 0
            have HNX : Hid (Sp Non w (w9.setCell ⟨gA, 0, none⟩ (.slice b9 (m + 1) d9)) [Pt.row ⟨38, 2, some ⟨b1, 0, none⟩, 1, 1, [.slice sa sn sc, .slice aa an ac]⟩, Pt.row ⟨38, 2, some ⟨b1 + 1, 0, none⟩, 1, 1, [.slice ta tn tc, .slice ba bn bc]⟩, Pt.row ⟨38, 2, some ⟨b1 + 1 + 1, 0, none⟩, 1, 1, [.slice none 0 0, .slice none 0 0]⟩, Pt.row ⟨2, 1, some ⟨b1 + 1 + 1 + 1, 0, none⟩, 1, 1, [.int .i64 (tn : Int)]⟩, Pt.ints 3 no nn nc N, Pt.row ⟨25, 1, some ⟨gA, 0, none⟩, 1, 1, [.slice b9 (m + 1) d9]⟩, Pt.ints 3 b9 (m + 1) d9 (trX (i + 1) N)]) := by
              show Sp _ _ _ _
              rw [HXS.out]; exact h9.put (i := 5) rfl 0 (.slice b9 (m + 1) d9)
            clear h9 HV2 HXS y0
            go_wp2_with fail
            go_roundw
            case rel => exact ⟨i + 1, b9, m + 1, d9, by omega, by go_num, HNX⟩
            case measure => simp [RowKit.intOf]; omega
        · obtain rfl : tn = i := by omega
          have hge : ¬ ((tn : Int) < tn) := by omega
          have hNl := (HO.out.ls (i := 4) rfl).len
          obtain ⟨hAl, hAr⟩ := trA_rng HNN.out.1 HNN.out.2
          have hmn : m + nn = tn := by rw [← hml, ← hNl, ← List.length_append]; exact hAl
          have hb1 : (m + nn) * 8 ≤ 140737488351232 := by omega
          obtain ⟨A, HA⟩ : ∃ z, Hid (z = trX tn N ++ N) := ⟨_, rfl⟩
          have HAT : Hid (trA tn N = A) := HA.out.symm
          rw [HAT.out] at hAl hAr
          have HRR2 := HRR.out
          rw [HAT.out] at HRR2
          have HRR3 := Lib.hid HRR2
          have HAA := Lib.hid (And.intro hAl hAr)
          clear hlt hi hNl hml hxl hAl hAr HRR2 HRR HNN
          go_wp2_with (at_builtin; refine Sp.wpList_loc (i := 6) HO.out rfl _ _ 25 rfl 3 i0 Tryz.underlying25 HI0.out.1 HI0.out.2.1 HI0.out.2.2.1 HI0.out.2.2.2 rfl rfl rfl (HO.out.ls (i := 4) rfl) hb1 ?_)
          intro bo bd w5 h5
          (try rw [hmn] at h5)
          (try rw [hmn])
          rw [← HA.out] at h5
          have p0 := h5.cell (i := 5) rfl 0 _ rfl
          have f0 := h5.frozen (i := 5) rfl 0
          have h6 := h5.put (i := 5) rfl 0 (.slice bo tn bd)
          obtain ⟨W6, HW6⟩ : ∃ z, Hid (w5.setCell ⟨gA, 0, none⟩ (.slice bo tn bd) = z) := ⟨_, rfl⟩
          rw [HW6.out] at h6
          have h7 := ((h6.zeros6 3 tn (by omega)).toRow (i := 6) rfl).toRow (i := 7) rfl
          obtain ⟨gs, HGS⟩ : ∃ z, Hid (W6.heap.size = z) := ⟨_, rfl⟩
          rw [HGS.out] at h7
          have HST : Hid (Sp Non w (W6.alloc (.cells (Array.replicate tn (.int .i64 0)) 3)) [Pt.row ⟨38, 2, some ⟨b1, 0, none⟩, 1, 1, [.slice sa sn sc, .slice aa an ac]⟩, Pt.row ⟨38, 2, some ⟨b1 + 1, 0, none⟩, 1, 1, [.slice ta tn tc, .slice ba bn bc]⟩, Pt.row ⟨38, 2, some ⟨b1 + 1 + 1, 0, none⟩, 1, 1, [.slice none 0 0, .slice none 0 0]⟩, Pt.row ⟨2, 1, some ⟨b1 + 1 + 1 + 1, 0, none⟩, 1, 1, [.int .i64 (tn : Int)]⟩, Pt.ints 3 no nn nc N, Pt.row ⟨25, 1, some ⟨gA, 0, none⟩, 1, 1, [.slice bo tn bd]⟩, Pt.row ⟨3, 1, bo, tn, bd, A.map (Value.int .i64)⟩, Pt.row ⟨3, 1, some ⟨gs, 0, none⟩, tn, tn, (updG (fun j => (tpS A s).getD j 0) (List.replicate tn 0) 0).map (Value.int .i64)⟩]) := by
            show Sp _ _ _ _
            rw [updG_zero]; exact h7
          have k1 : W6.cell? ⟨b1 + 1 + 1 + 1, 0, none⟩ = some (.int .i64 (tn : Int)) := h6.cell (i := 3) rfl 0 _ rfl
          have k2 : (W6.alloc (.cells (Array.replicate tn (.int .i64 0)) 3)).cell? ⟨gA, 0, none⟩ = some (.slice bo tn bd) := HST.out.cell (i := 5) rfl 0 _ rfl
          clear h5 h6 h7 HO y0 hb1
          go_upto_region 22 with fail
          rw [HW6.out]
          clear p0 f0
          go_wp2_with fail
          rw [HGS.out]
          go_loopw [69] (fun v wr => ∃ i : Nat, i ≤ tn ∧ v = .int .i64 i ∧ Hid (Sp Non w wr [Pt.row ⟨38, 2, some ⟨b1, 0, none⟩, 1, 1, [.slice sa sn sc, .slice aa an ac]⟩, Pt.row ⟨38, 2, some ⟨b1 + 1, 0, none⟩, 1, 1, [.slice ta tn tc, .slice ba bn bc]⟩, Pt.row ⟨38, 2, some ⟨b1 + 1 + 1, 0, none⟩, 1, 1, [.slice none 0 0, .slice none 0 0]⟩, Pt.row ⟨2, 1, some ⟨b1 + 1 + 1 + 1, 0, none⟩, 1, 1, [.int .i64 (tn : Int)]⟩, Pt.ints 3 no nn nc N, Pt.row ⟨25, 1, some ⟨gA, 0, none⟩, 1, 1, [.slice bo tn bd]⟩, Pt.row ⟨3, 1, bo, tn, bd, A.map (Value.int .i64)⟩, Pt.row ⟨3, 1, some ⟨gs, 0, none⟩, tn, tn, (updG (fun j => (tpS A s).getD j 0) (List.replicate tn 0) i).map (Value.int .i64)⟩])) (fun v _ => tn - (RowKit.intOf v).toNat)
          case atStart => exact ⟨0, Nat.zero_le _, rfl, HST⟩
          case round =>
            clear HST k1 k2
            obtain ⟨i, hi, rfl, HO⟩ := hrel
            by_cases hlt : i < tn
            · have hlt' : (i : Int) < tn := by omega
              have hrn := HAA.out.2 _ (mem_at (A := A) (i := i) (by rw [HAA.out.1]; exact hlt))
              obtain ⟨n, hn⟩ : ∃ n : Nat, A.getD i 0 = (n : Int) := ⟨(A.getD i 0).toNat, by omega⟩
              have htp : (tpS A s).getD i 0 = s.getD n 0 := by rw [tpS_at (by rw [HAA.out.1]; exact hlt), hn, Int.toNat_natCast]
              have hst := updG_step (f := fun j => (tpS A s).getD j 0) (t := List.replicate tn 0) (i := i) (by simpa using hlt)
              have hat := updG_at (f := fun j => (tpS A s).getD j 0) (t := List.replicate tn 0) (i := i) (j := i) (by simpa using hlt)
              rw [if_neg (by omega)] at hat
              have t1 := HO.out.cell (i := 7) rfl i (.int .i64 ((List.replicate tn (0 : Int)).getD i 0)) (by rw [getD_map_int _ _ (by rw [updG_len]; simpa using hlt), hat])
              have t2 := HO.out.frozen (i := 7) rfl i
              (try simp only at hst)
              rw [hn] at hrn
              rw [htp] at hst
              obtain ⟨c1, c2, c3, c4, c5⟩ := HO.out.rcap (i := 6) rfl
              obtain ⟨go, rfl⟩ := c5 (by omega)
              have t0 := HO.out.cell (i := 6) rfl i (.int .i64 (A.getD i 0)) (by rw [getD_map_int _ _ (by rw [HAA.out.1]; exact hlt)])
              rw [hn] at t0
              obtain ⟨by_, oy, ey, hcy⟩ := (HY.out.below HO.out.belowN (Nat.le_refl _)).shp.at (by simp only; omega)
              have d2 := hcy n (by simp only; omega)
              simp only at ey d2
              subst ey
              have y1 := HO.out.cell (i := 1) rfl 0 _ rfl
              have HPUT := HO.out.put (i := 7) rfl i (.int .i64 (s.getD n 0))
              rw [← List.map_set, hst] at HPUT
              have HNX := Lib.hid HPUT
              have hnx : (n : Int) < tn := hrn.2
              obtain ⟨si, HSI⟩ : ∃ z, Hid (s.getD n 0 = z) := ⟨_, rfl⟩
              rw [HSI.out] at d2 HNX
              obtain ⟨zi, HZI⟩ : ∃ z, Hid ((List.replicate tn (0 : Int)).getD i 0 = z) := ⟨_, rfl⟩
              rw [HZI.out] at t1
              clear hcy hrn hn htp hst hat c1 c2 c3 c4 c5 HPUT HO HSI HZI
              go_wp2_with fail
              go_roundw
              case rel => exact ⟨i + 1, by omega, by go_num, HNX⟩
              case measure => simp [RowKit.intOf]; omega
            · obtain rfl : tn = i := by omega
              have hge : ¬ ((tn : Int) < tn) := by omega
              have hal := HAA.out.1
              have htl : (tpS A s).length = tn := by simp [tpS, hal]
              have hup : updG (fun j => (tpS A s).getD j 0) (List.replicate tn 0) tn = tpS A s := by
                refine getD_ext (by rw [updG_len]; simp [htl]) fun p hp => ?_
                rw [updG_len] at hp
                rw [updG_at hp, if_pos (by simpa using hp)]
              have h7 := HO.out
              rw [hup] at h7
              have hAr2 : ∀ i, -9223372036854775808 ≤ A.getD i 0 ∧ A.getD i 0 ≤ 9223372036854775807 := fun i => by
                by_cases h : i < A.length
                · have := HAA.out.2 _ (mem_at h); omega
                · simp [List.getD, List.getElem?_eq_none (Nat.le_of_not_lt h)]
              have hsr := HY.out.shp.rng
              have htr : ∀ i, -9223372036854775808 ≤ (tpS A s).getD i 0 ∧ (tpS A s).getD i 0 ≤ 9223372036854775807 := fun i => by
                by_cases h : i < A.length
                · rw [tpS_at h]; exact hsr _
                · simp [List.getD, tpS, List.getElem?_eq_none (Nat.le_of_not_lt h)]
              have h8 := (h7.toInts (i := 6) rfl (by omega) hAr2).toInts (i := 7) rfl (by omega) htr
              have H8_ := h8
              try simp only [List.cons_append, List.nil_append, List.set_cons_zero, List.set_cons_succ, List.map_cons, List.map_nil, List.getD_cons_zero, List.getD_cons_succ, World.size_alloc] at H8_
              have H8 := Lib.hid H8_
              clear H8_
              have hI := HY.out.below H8.out.belowN (Nat.le_refl _)
              have y0 := H8.out.cell (i := 1) rfl 0 _ rfl
              have y1 := H8.out.cell (i := 1) rfl 1 _ rfl
              have CP := Lib.hid (picked_any (H8.out.ls (i := 7) rfl) hI (ff := 154) (caps := #[.pointer (some ⟨b1 + 1 + 1 + 1, 0, none⟩), .pointer (some ⟨gA, 0, none⟩), .pointer (some ⟨b1 + 1, 0, none⟩)]) (enters_of Tryz.func154 (by kernel_rfl) rfl) (tpF A s) (fun k _ => pk_bd hI HM.out _)
                (fun hm' W' F xo xn xc k hk hb hF hx => transpose1_any hb hF (H8.out.rlt (i := 3) rfl).1 (H8.out.rlt (i := 5) rfl).1 (H8.out.rlt (i := 1) rfl).1 (H8.out.cell (i := 3) rfl 0 _ rfl) (H8.out.cell (i := 5) rfl 0 _ rfl) y0 (H8.out.ls (i := 6) rfl) hI.shp hm' HAA.out.2 hk hx))
              simp only [Ar.v] at CP
              have hr := HRR3.out
              rw [← hr.1, ← hr.2.1, ← hr.2.2] at CP
              clear hr h7 h8 hI HO hup htl hal hAr2 hsr htr hlt hi
              go_wp2_with fail
              refine CP.out.mono ?_; rintro e w7 ⟨⟨za, zn, zc, xa, xm, xc, zs, zt⟩, rfl, hI, hs, ha, hO, hb⟩
              have H9_ := H8.out.arrNew hI hO hb
              try simp only [List.cons_append, List.nil_append, List.set_cons_zero, List.set_cons_succ, List.map_cons, List.map_nil, List.getD_cons_zero, List.getD_cons_succ, World.size_alloc] at H9_
              have H9 := Lib.hid H9_
              clear H9_
              simp only at hs ha
              subst hs ha
              simp only [Ar.v]
              clear y0 y1 hI hO hb CP H8
              have x0 := H9.out.cell (i := 2) rfl 0 _ rfl
              have x1 := H9.out.cell (i := 2) rfl 1 _ rfl
              have f0 := H9.out.frozen (i := 2) rfl 0
              have f1 := H9.out.frozen (i := 2) rfl 1
              have HF : Hid (∀ u v, MadeE w zs zt RE (.returned (.tuple #[.agg #[.slice za zn zc, .slice xa xm xc], .int .i64 RE])) ((w7.setCell ⟨b1 + 1 + 1, 0, none⟩ u).setCell ⟨b1 + 1 + 1, 1, none⟩ v)) := fun u v =>
                ((H9.out.put (i := 2) rfl 0 u).put (i := 2) rfl 1 v).madeE (i := 8) (B := ⟨za, zn, zc, xa, xm, xc, zs, zt⟩) rfl RE
              clear H9
              go_wp2
              exact bodyPost_ret (v := .tuple #[.agg #[.slice za zn zc, .slice xa xm xc], .int .i64 RE]) (by simp [results, Tryz.results116, go_sem, *]) rfl (HF.out _ _)
end Go.Proofs.YthackmkdicpdeaaGreat

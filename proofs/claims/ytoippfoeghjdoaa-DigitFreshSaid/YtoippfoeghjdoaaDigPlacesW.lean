/- What digit.places tells: no program in sight. Contract of digit.places. -/
import Derived.Test.YtoippfoeghjdoaaDigBinary
import Derived.Test.YtoippfoeghjdoaaSepSeq
import Derived.Test.YtoippfoeghjdoaaCellPlain2
import Derived.Deep.RegionLaw
import Derived.Sort.CutIn
namespace Go.Proofs.Ytoippfoeghjdoaa
open Go.RowKit Go.Lib
set_option linter.unusedVariables false
set_option linter.unusedSimpArgs false
/-- Lengths without their signs; indices turned round where a number is below 0; the place they lead to. -/
def absL (ns : List Int) : List Int := ns.map fun n => (n.natAbs : Int)
def flG (ns s t : List Int) (i : Nat) : List Int := (List.range t.length).map fun j => if j < i ∧ ns.getD j 0 < 0 then s.getD j 0 - 1 - t.getD j 0 else t.getD j 0
def pcAt (ns s : List Int) (k : Nat) : Int := plN s (flG ns s (ixL s k) ns.length) s.length
def pcE (ns : List Int) : Int := if mayE (absL ns) = 0 then 0 else 17
def pcS (ns : List Int) : List Int := if mayE (absL ns) = 0 then absL ns else []
def pcA (ns : List Int) : List Int := if mayE (absL ns) = 0 then (List.range (pr (absL ns)).toNat).map fun (k : Nat) => pcAt ns (absL ns) k else []
theorem absL_at (ns : List Int) (i : Nat) : (absL ns).getD i 0 = ((ns.getD i 0).natAbs : Int) := by
  unfold absL
  simp only [List.getD, List.getElem?_map]
  cases ns[i]? <;> simp
theorem absL_big {ns : List Int} {i : Nat} (h : 4096 < (ns.getD i 0).natAbs) : mayE (absL ns) ≠ 0 := fun h0 => by
  obtain ⟨h1, h2, h3⟩ := mayE_zero h0
  have q1 := (pm_up (absL ns) i).2.2
  have q2 := pm_all (absL ns) (i + 1)
  rw [absL_at] at q1
  omega
theorem flG_len (ns s t : List Int) (i : Nat) : (flG ns s t i).length = t.length := by simp [flG]
theorem flG_zero (ns s t : List Int) : flG ns s t 0 = t := by
  apply List.ext_getElem (by simp [flG])
  intro j h1 h2
  simp [flG, h2]
theorem flG_at {ns s t : List Int} {i j : Nat} (h : j < t.length) : (flG ns s t i).getD j 0 = if j < i ∧ ns.getD j 0 < 0 then s.getD j 0 - 1 - t.getD j 0 else t.getD j 0 := by
  simp [flG, List.getD, h]
theorem flG_step {ns s t : List Int} {i : Nat} (h : i < t.length) : (flG ns s t i).set i (if ns.getD i 0 < 0 then s.getD i 0 - 1 - t.getD i 0 else t.getD i 0) = flG ns s t (i + 1) := by
  apply List.ext_getElem (by simp [flG])
  intro j h1 h2
  simp only [List.length_set, flG_len] at h1
  rw [List.getElem_set]
  by_cases e : i = j
  · subst e
    rw [if_pos rfl]
    have e2 : (flG ns s t (i + 1))[i] = (flG ns s t (i + 1)).getD i 0 := by simp only [List.getD, List.getElem?_eq_getElem h2, Option.getD_some]
    rw [e2, flG_at h]
    by_cases hn : ns.getD i 0 < 0
    · rw [if_pos hn, if_pos ⟨by omega, hn⟩]
    · rw [if_neg hn, if_neg (fun h => hn h.2)]
  · rw [if_neg e]
    simp only [flG, List.getElem_map, List.getElem_range]
    by_cases hn : ns.getD j 0 < 0
    · by_cases hj : j < i
      · rw [if_pos ⟨hj, hn⟩, if_pos ⟨by omega, hn⟩]
      · rw [if_neg (fun h => hj h.1), if_neg (fun h => by omega)]
    · rw [if_neg (fun h => hn h.2), if_neg (fun h => hn h.2)]
theorem flG_same {ns s t : List Int} {i : Nat} (h : ¬ ns.getD i 0 < 0) : flG ns s t (i + 1) = flG ns s t i := by
  unfold flG
  refine List.map_congr_left fun j hj => ?_
  by_cases hn : ns.getD j 0 < 0
  · have : j ≠ i := fun e => h (e ▸ hn)
    by_cases hji : j < i
    · rw [if_pos ⟨by omega, hn⟩, if_pos ⟨hji, hn⟩]
    · rw [if_neg (fun h => by omega), if_neg (fun h => hji h.1)]
  · rw [if_neg (fun h => hn h.2), if_neg (fun h => hn h.2)]
theorem flG_in {ns s t : List Int} {m : Nat} (h : inR s t m) (hl : t.length = s.length) (hm : m ≤ s.length) (i : Nat) : inR s (flG ns s t i) m := fun j hj => by
  have h1 := h j hj
  rw [flG_at (by omega)]
  split <;> omega
theorem pc_bd {ns : List Int} (hm : mayE (absL ns) = 0) {k : Nat} (hk : (k : Int) < pr (absL ns)) (i : Nat) :
    inR (absL ns) (flG ns (absL ns) (ixL (absL ns) k) i) (absL ns).length ∧ 0 ≤ plN (absL ns) (flG ns (absL ns) (ixL (absL ns) k) i) (absL ns).length ∧ plN (absL ns) (flG ns (absL ns) (ixL (absL ns) k) i) (absL ns).length < pr (absL ns) := by
  have hp := pos_all (mayE_zero hm).1 (by omega)
  have r1 : inR (absL ns) (ixL (absL ns) k) (absL ns).length := fun j hj => ixL_rng hp j hj
  have r2 := flG_in (ns := ns) r1 (ixL_len _ _) (Nat.le_refl _) i
  have hb := plN_bd (mayE_zero hm).1 (Nat.le_refl _) r2
  rw [List.take_length] at hb
  exact ⟨r2, hb⟩
end Go.Proofs.Ytoippfoeghjdoaa
namespace Go.Proofs.Ytoippfoeghjdoaa
open Go.RowKit Go.Lib Go.Shelf
set_option linter.unusedVariables false
set_option linter.unusedSimpArgs false
attribute [local go_sem] alloc_drewN setCell_drewN
attribute [local go_sem] Oper.semAt_some
/-- A result that grows. -/
def PA (b8 : Nat) (so : Option Addr) (n c : Nat) (a : List Int) : Pt := Pt.ex fun x : Option Addr × Nat => Pt.all [Pt.row ⟨38, 2, some ⟨b8, 0, none⟩, 1, 1, [.slice so n c, .slice x.1 a.length x.2]⟩, Pt.ints 2 x.1 a.length x.2 a]
def pcAs (ns s : List Int) (k : Nat) : List Int := (List.range k).map fun (k : Nat) => pcAt ns s k
def pcL (ao : Option Addr) (n c b1 g b8 bn bs : Nat) (qo : Option Addr) (qn qc : Nat) (ns : List Int) (k : Nat) : List Pt :=
  seqL bn bs qo qn qc (absL ns) ++ [Pt.row ⟨28, 1, some ⟨b1, 0, none⟩, 1, 1, [.slice ao n c]⟩, Pt.row ⟨38, 2, some ⟨b1 + 1, 0, none⟩, 1, 1, [.slice none 0 0, .slice none 0 0]⟩, Pt.ints 3 (some ⟨g, 0, none⟩) n n (absL ns), Pt.row ⟨25, 1, some ⟨g + 1, 0, none⟩, 1, 1, [.slice (some ⟨g, 0, none⟩) n n]⟩, PA b8 (some ⟨g, 0, none⟩) n n (pcAs ns (absL ns) k)]
set_option maxRecDepth 100000 in
set_option maxHeartbeats 3200000 in
theorem places_any {w : World} {ao : Option Addr} {n c : Nat} {ns : List Int} (h : Ls w ao n c ns) :
    Calls Try.prog 43 #[.slice ao n c] w (MadeE w (pcS ns) (pcA ns) (pcE ns)) := by
  obtain ⟨W, HW⟩ : ∃ z, Hid ((w.alloc (.cells #[.slice ao n c] 28)).alloc (.cells #[.slice none 0 0, .slice none 0 0] 38) = z) := ⟨_, rfl⟩
  have h0 := ((Sp.start Non w).alloc 28 1 1 #[.slice ao n c] rfl (by decide)).alloc 38 2 1 #[.slice none 0 0, .slice none 0 0] rfl (by decide)
  rw [HW.out] at h0
  have H1_ := h0
  try simp only [List.cons_append, List.nil_append, List.set_cons_zero, List.set_cons_succ, List.map_cons, List.map_nil, List.getD_cons_zero, List.getD_cons_succ, World.size_alloc] at H1_
  have H1 := Lib.hid H1_
  clear H1_
  obtain ⟨b1, HB1⟩ : ∃ z, Hid (w.heap.size = z) := ⟨_, rfl⟩
  rw [HB1.out] at H1
  have HN := Lib.hid h
  have HNL := Lib.hid h.len
  have hbig := h.big
  obtain ⟨E, HE⟩ : ∃ z, Hid (pcE ns = z) := ⟨_, rfl⟩
  obtain ⟨S, HS⟩ : ∃ z, Hid (pcS ns = z) := ⟨_, rfl⟩
  obtain ⟨A, HA⟩ : ∃ z, Hid (pcA ns = z) := ⟨_, rfl⟩
  rw [HE.out, HS.out, HA.out]
  have HBAD : Hid (mayE (absL ns) ≠ 0 → E = 17 ∧ S = [] ∧ A = []) := fun hm => ⟨by rw [← HE.out, pcE, if_neg hm], by rw [← HS.out, pcS, if_neg hm], by rw [← HA.out, pcA, if_neg hm]⟩
  have x0 := H1.out.cell (i := 0) rfl 0 _ rfl
  clear h h0
  by_cases h8 : 8 < n
  · have h8' : (8 : Int) < n := by omega
    obtain ⟨r1, r2, r3⟩ := HBAD.out (fun h => by
      have h2 := (mayE_zero h).2.1
      have h3 : (absL ns).length = ns.length := by simp [absL]
      rw [h3, HNL.out] at h2
      omega)
    subst r1 r2 r3
    have x2 := H1.out.cell (i := 1) rfl 0 _ rfl
    have x3 := H1.out.cell (i := 1) rfl 1 _ rfl
    have f2 := H1.out.frozen (i := 1) rfl 0
    have f3 := H1.out.frozen (i := 1) rfl 1
    have HF : Hid (∀ u v, MadeE w [] [] 17 (.returned (.tuple #[.agg #[.slice none 0 0, .slice none 0 0], .int .i64 17])) ((W.setCell ⟨b1 + 1, 0, none⟩ u).setCell ⟨b1 + 1, 1, none⟩ v)) := fun u v => made_nil 17 ((H1.out.put (i := 1) rfl 0 u).put (i := 1) rfl 1 v).belowN
    clear HE HS HA HBAD
    refine calls_marks Try.func43 rfl ?_
    simp only [Try.ntmps43, List.size_toArray, List.length_cons, List.length_nil, Nat.reduceAdd, Nat.reduceSub, Array.replicate_succ, Array.replicate_zero, List.push_toArray, List.append_toArray, List.nil_append, List.cons_append]
    go_upto_region 1 with fail
    rw [HW.out, HB1.out]
    go_wp2
    exact marks_ret0 (v := .tuple #[.agg #[.slice none 0 0, .slice none 0 0], .int .i64 17]) rfl (by simp [results, Try.f43, go_sem, *]) (HF.out _ _)
  · have h8' : ¬ ((8 : Int) < n) := by omega
    have hn8 : (n : Int) ≤ 8 := by omega
    have hmk := fun w => mk_int n (by omega) w
    obtain ⟨g, HG⟩ : ∃ z, Hid (W.heap.size = z) := ⟨_, rfl⟩
    obtain ⟨W2, HW2⟩ : ∃ z, Hid ((W.alloc (.cells (Array.replicate n (.int .i64 0)) 3)).alloc (.cells #[.slice (some ⟨W.heap.size, 0, none⟩) n n] 25) = z) := ⟨_, rfl⟩
    have h2 := ((H1.out.zeros 3 n (by omega)).alloc 25 1 1 #[.slice (some ⟨W.heap.size, 0, none⟩) n n] rfl (by decide)).toRow (i := 2) rfl
    rw [HW2.out] at h2
    have H2_ := h2
    try simp only [List.cons_append, List.nil_append, List.set_cons_zero, List.set_cons_succ, List.map_cons, List.map_nil, List.getD_cons_zero, List.getD_cons_succ, World.size_alloc] at H2_
    have H2 := Lib.hid H2_
    clear H2_
    rw [HG.out] at H2
    have H3 : Hid (Sp Non w W2 [Pt.row ⟨28, 1, some ⟨b1, 0, none⟩, 1, 1, [.slice ao n c]⟩, Pt.row ⟨38, 2, some ⟨b1 + 1, 0, none⟩, 1, 1, [.slice none 0 0, .slice none 0 0]⟩, Pt.row ⟨3, 1, some ⟨g, 0, none⟩, n, n, ((absL ns).take 0 ++ List.replicate (n - 0) 0).map (Value.int .i64)⟩, Pt.row ⟨25, 1, some ⟨g + 1, 0, none⟩, 1, 1, [.slice (some ⟨g, 0, none⟩) n n]⟩]) := by
      show Sp _ _ _ _
      rw [List.take_zero, Nat.sub_zero]
      exact H2.out
    have hlb := (H1.out.rlt (i := 0) rfl).1
    have n1 : ¬ W.heap.size = b1 := by omega
    have n2 : ¬ W.heap.size + 1 = b1 := by omega
    clear h2 H2 H1
    refine calls_marks Try.func43 rfl ?_
    simp only [Try.ntmps43, List.size_toArray, List.length_cons, List.length_nil, Nat.reduceAdd, Nat.reduceSub, Array.replicate_succ, Array.replicate_zero, List.push_toArray, List.append_toArray, List.nil_append, List.cons_append]
    go_upto_region 1 with fail
    rw [HW.out, HB1.out]
    go_upto_region 4 with fail
    rw [HW2.out, HG.out]
    clear x0 n1 n2 hlb hmk
    have x0 := H3.out.cell (i := 0) rfl 0 _ rfl
    go_wp2_with fail
    clear x0
    go_loopw [23] (fun v23 wr => ∃ k : Nat, k ≤ n ∧ v23 = .int .i64 k ∧ Hid (Sp Non w wr [Pt.row ⟨28, 1, some ⟨b1, 0, none⟩, 1, 1, [.slice ao n c]⟩, Pt.row ⟨38, 2, some ⟨b1 + 1, 0, none⟩, 1, 1, [.slice none 0 0, .slice none 0 0]⟩, Pt.row ⟨3, 1, some ⟨g, 0, none⟩, n, n, ((absL ns).take k ++ List.replicate (n - k) 0).map (Value.int .i64)⟩, Pt.row ⟨25, 1, some ⟨g + 1, 0, none⟩, 1, 1, [.slice (some ⟨g, 0, none⟩) n n]⟩]) ∧ Hid (∀ i, i < k → (ns.getD i 0).natAbs ≤ 4096)) (fun v23 _ => n - (RowKit.intOf v23).toNat)
    case atStart => exact ⟨0, by omega, rfl, H3, fun i hi => absurd hi (by omega)⟩
    case round =>
      clear H3
      obtain ⟨k, hk, rfl, HO, HB⟩ := hrel
      by_cases hlt : k < n
      · have hlt' : (k : Int) < n := by omega
        have hls := HN.out.below HO.out.belowN (Nat.le_refl _)
        obtain ⟨b2, o2, e2, hc2⟩ := hls.at (by omega)
        subst e2
        have d1 := hc2 k hlt
        have hxr := hls.rng k
        obtain ⟨x, HX⟩ : ∃ z, Hid (ns.getD k 0 = z) := ⟨_, rfl⟩
        rw [HX.out] at d1 hxr
        have CS := Lib.hid (fun w => dsize_any x w hxr)
        obtain ⟨m, HM⟩ : ∃ z, Hid (x.natAbs = z) := ⟨_, rfl⟩
        rw [HM.out] at CS
        clear hls hc2 hxr
        go_wp2_with fail
        refine (CS.out _).mono ?_; rintro e w' ⟨rfl, hw'⟩
        have hw'' := hw'.symm
        subst hw''
        clear hw'
        by_cases hm : 4096 < m
        · have hm' : (4096 : Int) < m := by omega
          obtain ⟨r1, r2, r3⟩ := HBAD.out (absL_big (i := k) (by rw [HX.out, HM.out]; exact hm))
          subst r1 r2 r3
          have x2 := HO.out.cell (i := 1) rfl 0 _ rfl
          have x3 := HO.out.cell (i := 1) rfl 1 _ rfl
          have f2 := HO.out.frozen (i := 1) rfl 0
          have f3 := HO.out.frozen (i := 1) rfl 1
          have HF : Hid (∀ u v, MadeE w [] [] 17 (.returned (.tuple #[.agg #[.slice none 0 0, .slice none 0 0], .int .i64 17])) ((wr.setCell ⟨b1 + 1, 0, none⟩ u).setCell ⟨b1 + 1, 1, none⟩ v)) := fun u v => made_nil 17 ((HO.out.put (i := 1) rfl 0 u).put (i := 1) rfl 1 v).belowN
          clear HE HS HA HBAD
          go_wp2
          exact marks_ret0 (v := .tuple #[.agg #[.slice none 0 0, .slice none 0 0], .int .i64 17]) rfl (by simp [results, Try.f43, go_sem, *]) (HF.out _ _)
        · have hm' : ¬ ((4096 : Int) < m) := by omega
          have y0 := HO.out.cell (i := 3) rfl 0 _ rfl
          have hll : ((absL ns).take k ++ List.replicate (n - k) 0).length = n := by
            rw [List.length_append, List.length_replicate, List.length_take, absL, List.length_map, HNL.out]; omega
          have g0 := HO.out.cell (i := 2) rfl k (.int .i64 (((absL ns).take k ++ List.replicate (n - k) 0).getD k 0)) (getD_map_int _ _ (by rw [hll]; exact hlt))
          have g1 := HO.out.frozen (i := 2) rfl k
          have HNX : Hid (Sp Non w (wr.setCell ⟨g, k, none⟩ (.int .i64 m)).drew [Pt.row ⟨28, 1, some ⟨b1, 0, none⟩, 1, 1, [.slice (some ⟨b2, o2, none⟩) n c]⟩, Pt.row ⟨38, 2, some ⟨b1 + 1, 0, none⟩, 1, 1, [.slice none 0 0, .slice none 0 0]⟩, Pt.row ⟨3, 1, some ⟨g, 0, none⟩, n, n, ((absL ns).take (k + 1) ++ List.replicate (n - (k + 1)) 0).map (Value.int .i64)⟩, Pt.row ⟨25, 1, some ⟨g + 1, 0, none⟩, 1, 1, [.slice (some ⟨g, 0, none⟩) n n]⟩]) := by
            show Sp _ _ _ _
            have h2 := (HO.out.put (i := 2) rfl k (.int .i64 m)).via (adrew1 _)
            rw [← List.map_set] at h2
            have h3 : ((absL ns).take k ++ List.replicate (n - k) 0).set k (m : Int) = (absL ns).take (k + 1) ++ List.replicate (n - (k + 1)) 0 := by
              have hl : ((absL ns).take k).length = k := by rw [List.length_take, absL, List.length_map, HNL.out]; omega
              rw [List.set_append_right _ _ (by rw [hl]; exact Nat.le_refl _), hl, Nat.sub_self, show n - k = (n - (k + 1)) + 1 by omega, List.replicate_succ, List.set_cons_zero, take_snoc (by rw [absL, List.length_map, HNL.out]; exact hlt), absL_at, HX.out, HM.out, List.append_assoc]
              rfl
            rw [h3] at h2
            exact h2
          have HB2 : Hid (∀ i, i < k + 1 → (ns.getD i 0).natAbs ≤ 4096) := fun i hi => by
            by_cases e : i = k
            · subst e; rw [HX.out, HM.out]; omega
            · exact HB.out i (by omega)
          clear hll
          go_wp2_with fail
          refine region_tail 6 (by kernel_rfl) (by kernel_rfl) ?_
          simp only [List.take_succ_cons, List.take_zero, List.drop_succ_cons, List.drop_zero]
          iterate 3 still_step
          still_call (RetS.still (CS.out _))
          iterate 2 still_step
          refine wpStill_nil ?_
          clear CS HE HS HA HBAD
          go_wp2
          go_roundw
          case rel => exact ⟨k + 1, by omega, by go_num, HNX, HB2⟩
          case measure => simp [RowKit.intOf] <;> omega
      · obtain rfl : k = n := by omega
        have hge : ¬ ((k : Int) < k) := by omega
        have hsl : (absL ns).length = k := by rw [absL, List.length_map, HNL.out]
        have hsr : ∀ i, -9223372036854775808 ≤ (absL ns).getD i 0 ∧ (absL ns).getD i 0 ≤ 9223372036854775807 := fun i => by
          rw [absL_at]
          by_cases hi : i < k
          · have := HB.out i hi; omega
          · simp [List.getD, List.getElem?_eq_none (show ns.length ≤ i by rw [HNL.out]; omega)]
        have hsp := HO.out
        rw [List.take_of_length_le (by rw [hsl]; exact Nat.le_refl _), Nat.sub_self, List.replicate_zero, List.append_nil] at hsp
        have H4_ := hsp.toInts (i := 2) rfl (by omega) hsr
        try simp only [List.cons_append, List.nil_append, List.set_cons_zero, List.set_cons_succ, List.map_cons, List.map_nil, List.getD_cons_zero, List.getD_cons_succ, World.size_alloc] at H4_
        have H4 := Lib.hid H4_
        clear H4_
        have HFL : Hid (∀ t i, flG ns (absL ns) t i = flG ns (absL ns) t i) := fun _ _ => rfl
        have HSA : Hid (∀ i, (absL ns).getD i 0 = ((ns.getD i 0).natAbs : Int)) := absL_at ns
        have CM := Lib.hid (may_any (H4.out.ls (i := 2) rfl))
        have y0 := H4.out.cell (i := 3) rfl 0 _ rfl
        clear hsp HO hsr
        by_cases hm : mayE (absL ns) = 0
        · rw [hm] at CM
          have r1 : E = 0 := by rw [← HE.out, pcE, if_pos hm]
          have r2 : S = absL ns := by rw [← HS.out, pcS, if_pos hm]
          have r3 : A = pcAs ns (absL ns) (pr (absL ns)).toNat := by rw [← HA.out, pcA, if_pos hm]; rfl
          obtain ⟨N, hN⟩ : ∃ N : Nat, pr (absL ns) = N := ⟨(pr (absL ns)).toNat, by have := pr_nonneg hm; omega⟩
          rw [hN, Int.toNat_natCast] at r3
          have hNb : N ≤ 4096 := by have := pr_nonneg hm; omega
          have HSZ : Hid (szE (absL ns) = N) := by show _ = _; unfold szE; rw [if_pos hm, hN]
          have HM := Lib.hid (And.intro hm hN)
          subst r1
          have HR := Lib.hid (And.intro r2 r3)
          clear hm hN r2 r3 HE HS HA HBAD
          go_wp2_with fail
          refine CM.out.mono ?_; rintro e w' ⟨rfl, hw'⟩
          have hw'' := hw'.symm
          subst hw''
          clear hw' CM y0
          have H5_ := (H4.out.alloc 38 2 1 #[.slice (some ⟨g, 0, none⟩) k k, .slice none 0 0] rfl (by decide)).intsNew (E := 2) (zs := []) (World.ownsRow_nil _ _ _ _) (Below.refl _ _) (by omega) (fun i => by simp [List.getD])
          try simp only [List.cons_append, List.nil_append, List.set_cons_zero, List.set_cons_succ, List.map_cons, List.map_nil, List.getD_cons_zero, List.getD_cons_succ, World.size_alloc] at H5_
          have H5 := Lib.hid H5_
          clear H5_
          obtain ⟨b8, HB8⟩ : ∃ z, Hid (wr.heap.size = z) := ⟨_, rfl⟩
          rw [HB8.out] at H5
          have CA := Lib.hid (all_sp (H5.out.ls (i := 2) rfl))
          have y0 := H4.out.cell (i := 3) rfl 0 _ rfl
          have hlg := (H4.out.rlt (i := 3) rfl).1
          have n1 : ¬ wr.heap.size = g + 1 := by omega
          go_wp2_with fail
          refine CA.out.mono ?_; rintro e w9 ⟨bn, bs, qo, qn, qc, rfl, hq⟩
          have h9 := (((H5.out.add hq).pick [6, 7, 8, 0, 1, 2, 3, 4, 5] (by decide)).pair (i := 7) (j := 8) rfl (by decide) rfl)
          have h10 := (h9.sub (i := 7) rfl (PA b8 (some ⟨g, 0, none⟩) k k []) (fun F hF => ⟨(none, 0), hF⟩)).pick [0, 1, 2, 3, 4, 5, 6, 7] (by decide)
          have HI0 : Hid (Sp Non w w9 (pcL ao k c b1 g b8 bn bs qo qn qc ns 0)) := h10
          have HW9 : Hid (w.heap.size ≤ w9.heap.size) := HI0.out.out.size
          clear h9 h10 hq CA H5 H4 y0 n1 hlg
          rw [HB8.out]
          simp only [seqV]
          go_wp2_with fail
          refine (wpIn_wide (n := 6)).1 ?_
          refine wpIn_range_seq2 (n := 6) (by omega) (gf := 93) (lb := #[.pointer (some ⟨bn, 0, none⟩), .pointer (some ⟨bs, 0, none⟩)]) rfl (enters_of Try.func93 (by kernel_rfl) rfl) rndV (fun _ => rfl) (RndOwn Non w (pcL ao k c b1 g b8 bn bs qo qn qc ns) (absL ns)) N (fun j V => Sp Non w V (pcL ao k c b1 g b8 bn bs qo qn qc ns j))
            (fun j V => Sp Non w V (pcL ao k c b1 g b8 bn bs qo qn qc ns j)) (fun _ _ => False)
            (fun j => sp_bears HW9.out) (fun c W W' row h _ _ => h) (fun j x => rndOwn_bears HW9.out) (fun j W h => h) HI0.out
            (fun l J Jx W hK hJ hY h0 => allseq_sp HSZ.out (pcL ao k c b1 g b8 bn bs qo qn qc ns) (fun _ => rfl) 5 l (by omega) J Jx W hK hJ hY h0) ?a1 ?assign ?body ?done ?stop
          case assign =>
            intro l x W K hK
            simp [rndV]
            gi_wp2
            exact hK
          case body =>
            intro l j x V hkN hI hx
            obtain ⟨x1, xo, xn, xc⟩ := x
            obtain ⟨hx1, hx2⟩ := hx
            simp only at hx1 hx2
            have hx1' := hx1.symm
            subst hx1'
            obtain ⟨hp1, hp2⟩ := HM.out
            have hpb := pc_bd hp1 (k := j) (by rw [hp2]; omega)
            have htl : (ixL (absL ns) j).length = k := by rw [ixL_len]; exact hsl
            have hxn : xn = k := by have h1 := (hx2.ls (i := 8) rfl).len; rw [htl] at h1; exact h1.symm
            subst hxn
            have hNS := HN.out.below hx2.belowN (Nat.le_refl _)
            obtain ⟨F, hF, hback⟩ := hx2.rebase
            obtain ⟨⟨yo, yc⟩, hF2⟩ := hF.ex (i := 7) rfl
            have hF3 := hF2.split (i := 7) rfl
            simp only [pcL, seqL] at hF3
            have HS0_ := hF3.toRow (i := 8) rfl
            try simp only [List.cons_append, List.nil_append, List.set_cons_zero, List.set_cons_succ, List.map_cons, List.map_nil, List.getD_cons_zero, List.getD_cons_succ, World.size_alloc] at HS0_
            have HS0 := Lib.hid HS0_
            clear HS0_
            have HS : Hid (Sp F V V [Pt.row ⟨3, 1, some ⟨bn, 0, none⟩, 1, 1, [.int .i64 (szE (absL ns))]⟩, Pt.ints 3 qo qn qc (absL ns), Pt.row ⟨25, 1, some ⟨bs, 0, none⟩, 1, 1, [.slice qo qn qc]⟩, Pt.row ⟨28, 1, some ⟨b1, 0, none⟩, 1, 1, [.slice ao xn c]⟩, Pt.row ⟨38, 2, some ⟨b1 + 1, 0, none⟩, 1, 1, [.slice none 0 0, .slice none 0 0]⟩, Pt.ints 3 (some ⟨g, 0, none⟩) xn xn (absL ns), Pt.row ⟨25, 1, some ⟨g + 1, 0, none⟩, 1, 1, [.slice (some ⟨g, 0, none⟩) xn xn]⟩, Pt.nil, Pt.row ⟨3, 1, xo, xn, xc, (flG ns (absL ns) (ixL (absL ns) j) 0).map (Value.int .i64)⟩, Pt.row ⟨38, 2, some ⟨b8, 0, none⟩, 1, 1, [.slice (some ⟨g, 0, none⟩) xn xn, .slice yo (pcAs ns (absL ns) j).length yc]⟩, Pt.ints 2 yo (pcAs ns (absL ns) j).length yc (pcAs ns (absL ns) j)]) := by
              show Sp _ _ _ _
              rw [flG_zero]
              exact HS0.out
            have HBK := Lib.hid hback
            have HPB := Lib.hid hpb
            have HNS := Lib.hid hNS
            have HTL := Lib.hid htl
            have u0 := HS.out.cell (i := 3) rfl 0 _ rfl
            clear hp1 hp2 hpb htl hx2 hI hF hF2 hF3 hback hNS HS0 hx1 HFL
            gi_wp2_with fail
            gi_loopw [51] (fun v51 wr => ∃ i : Nat, i ≤ xn ∧ v51 = .int .i64 i ∧ Hid (Sp F V wr [Pt.row ⟨3, 1, some ⟨bn, 0, none⟩, 1, 1, [.int .i64 (szE (absL ns))]⟩, Pt.ints 3 qo qn qc (absL ns), Pt.row ⟨25, 1, some ⟨bs, 0, none⟩, 1, 1, [.slice qo qn qc]⟩, Pt.row ⟨28, 1, some ⟨b1, 0, none⟩, 1, 1, [.slice ao xn c]⟩, Pt.row ⟨38, 2, some ⟨b1 + 1, 0, none⟩, 1, 1, [.slice none 0 0, .slice none 0 0]⟩, Pt.ints 3 (some ⟨g, 0, none⟩) xn xn (absL ns), Pt.row ⟨25, 1, some ⟨g + 1, 0, none⟩, 1, 1, [.slice (some ⟨g, 0, none⟩) xn xn]⟩, Pt.nil, Pt.row ⟨3, 1, xo, xn, xc, (flG ns (absL ns) (ixL (absL ns) j) i).map (Value.int .i64)⟩, Pt.row ⟨38, 2, some ⟨b8, 0, none⟩, 1, 1, [.slice (some ⟨g, 0, none⟩) xn xn, .slice yo (pcAs ns (absL ns) j).length yc]⟩, Pt.ints 2 yo (pcAs ns (absL ns) j).length yc (pcAs ns (absL ns) j)])) (fun v51 _ => xn - (RowKit.intOf v51).toNat)
            case atStart => exact ⟨0, by omega, rfl, HS⟩
            case round =>
              clear HS u0
              obtain ⟨i, hi, rfl, HO⟩ := hrel
              by_cases hlt : i < xn
              · have hlt' : (i : Int) < xn := by omega
                have hW := (HBK.out wr _ HO.out).1
                have hls := HN.out.below hW.belowN (Nat.le_refl _)
                obtain ⟨b2, o2, e2, hc2⟩ := hls.at (by omega)
                subst e2
                have d1 := hc2 i hlt
                have hrow := (HO.out.rcap (i := 8) rfl)
                obtain ⟨c1, c2, c3, c4, c5⟩ := hrow
                obtain ⟨gx, rfl⟩ := c5 (by omega)
                obtain ⟨hin, hb⟩ := HPB.out i
                have hti := hin i (by rw [hsl]; exact hlt)
                have hsi := HSA.out i
                have t0 := HO.out.cell (i := 8) rfl i (.int .i64 ((flG ns (absL ns) (ixL (absL ns) j) i).getD i 0)) (getD_map_int _ _ (by rw [flG_len, HTL.out]; exact hlt))
                have t1 := HO.out.frozen (i := 8) rfl i
                have hs4 := HB.out i hlt
                have hsc := (HO.out.ls (i := 5) rfl).at (by omega)
                obtain ⟨g5, o5, e5, hc5⟩ := hsc
                cases e5
                have s0 := hc5 i hlt
                rw [Nat.zero_add] at s0
                have HST := Lib.hid (flG_step (ns := ns) (s := absL ns) (t := ixL (absL ns) j) (i := i) (by rw [HTL.out]; exact hlt))
                have hfi : (flG ns (absL ns) (ixL (absL ns) j) i).getD i 0 = (ixL (absL ns) j).getD i 0 := by
                  rw [flG_at (by rw [HTL.out]; exact hlt), if_neg (fun h => by omega)]
                rw [hfi] at t0 hti
                have HSM := Lib.hid (flG_same (ns := ns) (s := absL ns) (t := ixL (absL ns) j) (i := i))
                obtain ⟨ti, HTI⟩ : ∃ z, Hid ((ixL (absL ns) j).getD i 0 = z) := ⟨_, rfl⟩
                obtain ⟨si, HSI⟩ : ∃ z, Hid ((absL ns).getD i 0 = z) := ⟨_, rfl⟩
                obtain ⟨x, HX⟩ : ∃ z, Hid (ns.getD i 0 = z) := ⟨_, rfl⟩
                rw [HX.out] at d1 hs4 hsi HST HSM
                rw [HTI.out] at t0 hti HST
                rw [HSI.out] at s0 hti hsi HST
                have hsb : 0 ≤ si ∧ si ≤ 4096 := by omega
                have y0 := HO.out.cell (i := 6) rfl 0 _ rfl
                clear hW hls hc2 c1 c2 c3 c4 c5 hin hb hc5 hfi hs4 hsi
                by_cases hx : x < 0
                · have hNX : Sp F V (wr.setCell ⟨gx, i, none⟩ (.int .i64 (si - 1 - ti))).drew [Pt.row ⟨3, 1, some ⟨bn, 0, none⟩, 1, 1, [.int .i64 (szE (absL ns))]⟩, Pt.ints 3 qo qn qc (absL ns), Pt.row ⟨25, 1, some ⟨bs, 0, none⟩, 1, 1, [.slice qo qn qc]⟩, Pt.row ⟨28, 1, some ⟨b1, 0, none⟩, 1, 1, [.slice (some ⟨b2, o2, none⟩) xn c]⟩, Pt.row ⟨38, 2, some ⟨b1 + 1, 0, none⟩, 1, 1, [.slice none 0 0, .slice none 0 0]⟩, Pt.ints 3 (some ⟨g, 0, none⟩) xn xn (absL ns), Pt.row ⟨25, 1, some ⟨g + 1, 0, none⟩, 1, 1, [.slice (some ⟨g, 0, none⟩) xn xn]⟩, Pt.nil, Pt.row ⟨3, 1, some ⟨gx, 0, none⟩, xn, xc, (flG ns (absL ns) (ixL (absL ns) j) (i + 1)).map (Value.int .i64)⟩, Pt.row ⟨38, 2, some ⟨b8, 0, none⟩, 1, 1, [.slice (some ⟨g, 0, none⟩) xn xn, .slice yo (pcAs ns (absL ns) j).length yc]⟩, Pt.ints 2 yo (pcAs ns (absL ns) j).length yc (pcAs ns (absL ns) j)] := by
                    have h2 := (HO.out.put (i := 8) rfl i (.int .i64 (si - 1 - ti))).via (adrew1 _)
                    rw [← List.map_set] at h2
                    have h3 := HST.out
                    rw [if_pos hx] at h3
                    rw [h3] at h2
                    exact h2
                  have HNX := Lib.hid hNX
                  clear hNX HST HSM
                  gi_wp2_with fail
                  refine in_tail 13 (by kernel_rfl) (by kernel_rfl) (by kernel_rfl) ?_
                  simp only [List.take_succ_cons, List.take_zero, List.drop_succ_cons, List.drop_zero]
                  iterate 13 still_step
                  refine wpStill_nil ?_
                  go_wp2
                  refine OnlyN.mk ?_
                  (try simp only [Exit.inBlock, Exit.then])
                  gi_wp2
                  go_roundw
                  case rel => exact ⟨i + 1, by omega, by go_num, HNX⟩
                  case measure => simp [RowKit.intOf] <;> omega
                · have HNX := HO
                  rw [← HSM.out hx] at HNX
                  clear HST HSM
                  gi_wp2
                  go_roundw
                  case rel => exact ⟨i + 1, by omega, by go_num, HNX⟩
                  case measure => simp [RowKit.intOf] <;> omega
              · have hge : ¬ ((i : Int) < xn) := by omega
                obtain rfl : i = xn := by omega
                obtain ⟨hin, hb⟩ := HPB.out i
                have hsb : ∀ q, (absL ns).getD q 0 ≤ 4096 := fun q => by
                  by_cases hq : q < i
                  · rw [HSA.out]; have := HB.out q hq; omega
                  · simp [List.getD, List.getElem?_eq_none (show (absL ns).length ≤ q by rw [hsl]; omega)]
                have hfr : ∀ q, -9223372036854775808 ≤ (flG ns (absL ns) (ixL (absL ns) j) i).getD q 0 ∧ (flG ns (absL ns) (ixL (absL ns) j) i).getD q 0 ≤ 9223372036854775807 := fun q => by
                  by_cases hq : q < i
                  · have h1 := hin q (by rw [hsl]; exact hq)
                    have h2 := hsb q
                    omega
                  · simp [List.getD, List.getElem?_eq_none (show (flG ns (absL ns) (ixL (absL ns) j) i).length ≤ q by rw [flG_len, HTL.out]; omega)]
                have H2_ := HO.out.toInts (i := 8) rfl (by omega) hfr
                try simp only [List.cons_append, List.nil_append, List.set_cons_zero, List.set_cons_succ, List.map_cons, List.map_nil, List.getD_cons_zero, List.getD_cons_succ, World.size_alloc] at H2_
                have H2 := Lib.hid H2_
                clear H2_
                have cp := place_any (H2.out.ls (i := 5) rfl) (H2.out.ls (i := 8) rfl)
                have hfl : (flG ns (absL ns) (ixL (absL ns) j) i).length = (absL ns).length := by rw [flG_len, ixL_len]
                rw [show plV (absL ns) (flG ns (absL ns) (ixL (absL ns) j) i) = plN (absL ns) (flG ns (absL ns) (ixL (absL ns) j) i) (absL ns).length by rw [plV, if_pos ⟨HM.out.1, hfl, hin⟩], show plE (absL ns) (flG ns (absL ns) (ixL (absL ns) j) i) = 0 by rw [plE, if_pos HM.out.1, if_pos hfl, if_pos hin]] at cp
                obtain ⟨p, hp⟩ : ∃ p : Nat, plN (absL ns) (flG ns (absL ns) (ixL (absL ns) j) i) (absL ns).length = p := ⟨_, (Int.toNat_of_nonneg hb.1).symm⟩
                have HPC : Hid (pcAs ns (absL ns) (j + 1) = pcAs ns (absL ns) j ++ [(p : Int)]) := by
                  show _ = _
                  unfold pcAs
                  rw [List.range_succ, List.map_append, List.map_singleton]
                  congr 2
                  show plN _ _ _ = _
                  rw [HNL.out]; exact hp
                have HPL : Hid ((pcAs ns (absL ns) j).length = j) := by show _ = _; simp [pcAs]
                rw [hp] at cp hb
                rw [HM.out.2] at hb
                have CP := Lib.hid cp
                have y0 := H2.out.cell (i := 6) rfl 0 _ rfl
                have y1 := H2.out.cell (i := 9) rfl 1 _ rfl
                have HFIN : Hid (∀ (w9 : World) (b9 : Option Addr) (d9 : Nat), Sp F V w9 [Pt.row ⟨3, 1, some ⟨bn, 0, none⟩, 1, 1, [.int .i64 (szE (absL ns))]⟩, Pt.ints 3 qo qn qc (absL ns), Pt.row ⟨25, 1, some ⟨bs, 0, none⟩, 1, 1, [.slice qo qn qc]⟩, Pt.row ⟨28, 1, some ⟨b1, 0, none⟩, 1, 1, [.slice ao i c]⟩, Pt.row ⟨38, 2, some ⟨b1 + 1, 0, none⟩, 1, 1, [.slice none 0 0, .slice none 0 0]⟩, Pt.ints 3 (some ⟨g, 0, none⟩) i i (absL ns), Pt.row ⟨25, 1, some ⟨g + 1, 0, none⟩, 1, 1, [.slice (some ⟨g, 0, none⟩) i i]⟩, Pt.nil, Pt.ints 3 xo i xc (flG ns (absL ns) (ixL (absL ns) j) i), Pt.row ⟨38, 2, some ⟨b8, 0, none⟩, 1, 1, [.slice (some ⟨g, 0, none⟩) i i, .slice yo (pcAs ns (absL ns) j).length yc]⟩, Pt.ints 2 b9 ((pcAs ns (absL ns) j).length + 1) d9 (pcAs ns (absL ns) j ++ [(p : Int)])] → KeepsOthers V (w9.setCell ⟨b8, 1, none⟩ (.slice b9 ((pcAs ns (absL ns) j).length + 1) d9)) ∧ Sp Non w (w9.setCell ⟨b8, 1, none⟩ (.slice b9 ((pcAs ns (absL ns) j).length + 1) d9)) (pcL ao i c b1 g b8 bn bs qo qn qc ns (j + 1))) := by
                  intro w9 b9 d9 h9
                  have h10 := (h9.put (i := 9) rfl 1 (.slice b9 ((pcAs ns (absL ns) j).length + 1) d9)).pair (i := 9) (j := 10) rfl (by decide) rfl
                  have h11 := (h10.sub (i := 9) rfl (PA b8 (some ⟨g, 0, none⟩) i i (pcAs ns (absL ns) (j + 1))) (fun F hF => ⟨(b9, d9), by rw [HPC.out, List.length_append]; exact hF⟩)).pick [0, 1, 2, 3, 4, 5, 6, 9] (by decide)
                  obtain ⟨k1, k2⟩ := HBK.out _ _ h11
                  exact ⟨k2, k1⟩
                obtain ⟨i0, hi0, hza, hzb, hzc⟩ := info_parts (P := Try.prog) (e := 2) (z := .int .i64 0) (size := 1) (bytes := 8) (by kernel_rfl)
                have hb1 : ((pcAs ns (absL ns) j).length + 1) * 8 ≤ 140737488351232 := by rw [HPL.out]; omega
                have HV := Lib.hid (H2.out.via (abal wr (.cells #[.int .i64 p] 2)))
                have hlb := (H2.out.rlt (i := 9) rfl).1
                have n1 : ¬ wr.heap.size = b8 := by omega
                have n2 : ¬ b8 = wr.heap.size := by omega
                clear cp hin hsb hfr hfl hp HO HBK HPB
                gi_wp2_with fail
                refine ⟨trivial, (CallsIn.inRound l (callsIn_wide.2 CP.out)).mono ?_⟩; rintro e' v1 ⟨rfl, hv⟩
                have hv' := hv.symm
                subst hv'
                gi_upto_region 23 with fail
                refine in_list (by kernel_rfl) ?_
                go_wp2_with (at_builtin; refine Sp.wpList_loc (i := 10) HV.out rfl _ _ 28 rfl 2 i0 Try.underlying28 hi0 hza hzb hzc rfl rfl rfl (ls_lit1 wr _ (by omega)) hb1 ?_)
                intro b9 d9 w9' h9
                have q1 := h9.cell (i := 9) rfl 1 _ rfl
                have q2 := h9.frozen (i := 9) rfl 1
                have HFF := Lib.hid (HFIN.out w9' b9 d9 h9)
                clear h9 HFIN HV
                go_wp2
                refine OnlyN.mk ?_
                (try simp only [Exit.inBlock, Exit.then])
                exact HFF.out
          case done =>
            rintro D V hD hI hKD
            obtain ⟨⟨yo, yc⟩, hF2⟩ := hI.ex (i := 7) rfl
            have hF3 := hF2.split (i := 7) rfl
            simp only [pcL, seqL] at hF3
            have hpl : (pcAs ns (absL ns) N).length = N := by simp [pcAs]
            simp only [hpl] at hF3
            have h7 := hF3.arrOf (i := 5) (j := 9) rfl (by decide) rfl
            have H7_ := h7
            try simp only [List.cons_append, List.nil_append, List.set_cons_zero, List.set_cons_succ, List.map_cons, List.map_nil, List.getD_cons_zero, List.getD_cons_succ, World.size_alloc] at H7_
            have H7 := Lib.hid H7_
            clear H7_
            have x2 := H7.out.cell (i := 4) rfl 0 _ rfl
            have x3 := H7.out.cell (i := 4) rfl 1 _ rfl
            have y0 := H7.out.cell (i := 8) rfl 0 _ rfl
            have y1 := H7.out.cell (i := 8) rfl 1 _ rfl
            have f2 := H7.out.frozen (i := 4) rfl 0
            have f3 := H7.out.frozen (i := 4) rfl 1
            have HKD := Lib.hid hKD
            obtain ⟨rs, ra⟩ := HR.out
            subst rs ra
            clear hI hF2 hF3 h7 hKD hpl HR HI0
            go_wp2
            have hX := (H7.out.put (i := 4) rfl 0 (.slice (some ⟨g, 0, none⟩) k k)).put (i := 4) rfl 1 (.slice yo N yc)
            have hK' := ((KeepsOthers.setCell V ⟨b1 + 1, 0, none⟩ (.slice (some ⟨g, 0, none⟩) k k)).trans (KeepsOthers.setCell _ ⟨b1 + 1, 1, none⟩ (.slice yo N yc))).same D _ HKD.out rfl
            have hfin := sp_bears HW9.out _ _ (some D) hX (grownBy_putObj' _ D (.deferred none)) (fun r e => by cases e; exact ⟨hD, _, hK', rfl⟩)
            have hc4 := hfin.cell (i := 4) rfl 0 _ rfl
            have hc5 := hfin.cell (i := 4) rfl 1 _ rfl
            have HF := Lib.hid (hfin.madeE (i := 9) (B := ⟨some ⟨g, 0, none⟩, k, k, yo, N, yc, absL ns, pcAs ns (absL ns) N⟩) rfl 0)
            clear hX hfin
            exact marks_ret1 (v := .tuple #[.agg #[.slice (some ⟨g, 0, none⟩) k k, .slice yo N yc], .int .i64 0]) rfl hK' (by simp [results, Try.f43, go_sem, hc4, hc5]) HF.out
          case stop =>
            rintro D c W _ h _
            exact h.elim
        · obtain ⟨r1, r2, r3⟩ := HBAD.out hm
          subst r1 r2 r3
          obtain ⟨e, he⟩ : ∃ z, z = mayE (absL ns) := ⟨_, rfl⟩
          rw [← he] at CM hm
          have q0 : (e != 0) = true := by simpa using hm
          have x2 := H4.out.cell (i := 1) rfl 0 _ rfl
          have x3 := H4.out.cell (i := 1) rfl 1 _ rfl
          have f2 := H4.out.frozen (i := 1) rfl 0
          have f3 := H4.out.frozen (i := 1) rfl 1
          have HF : Hid (∀ u v, MadeE w [] [] 17 (.returned (.tuple #[.agg #[.slice none 0 0, .slice none 0 0], .int .i64 17])) ((wr.setCell ⟨b1 + 1, 0, none⟩ u).setCell ⟨b1 + 1, 1, none⟩ v)) := fun u v => made_nil 17 ((H4.out.put (i := 1) rfl 0 u).put (i := 1) rfl 1 v).belowN
          clear HE HS HA HBAD he hm
          go_wp2_with fail
          refine CM.out.mono ?_; rintro e w' ⟨rfl, hw'⟩
          have hw'' := hw'.symm
          subst hw''
          go_wp2
          exact marks_ret0 (v := .tuple #[.agg #[.slice none 0 0, .slice none 0 0], .int .i64 17]) rfl (by simp [results, Try.f43, go_sem, *]) (HF.out _ _)
end Go.Proofs.Ytoippfoeghjdoaa

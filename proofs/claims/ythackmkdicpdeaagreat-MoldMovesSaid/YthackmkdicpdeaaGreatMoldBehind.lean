/- Contract of mold.behind. -/
import Derived.Test.YthackmkdicpdeaaGreatMoldItem
import Derived.Test.YthackmkdicpdeaaGreatMoldTake1
import Derived.Deep.CutBlock
namespace Go.Proofs.YthackmkdicpdeaaGreat
open Go.RowKit Go.Lib Go.Shelf
set_option linter.unusedVariables false
set_option linter.unusedSimpArgs false
attribute [local go_sem] alloc_drewN setCell_drewN
attribute [local go_sem] Oper.semAt_some
/-- Lengths with ones ahead; the common shape of one behind the other; the atom at some indices. -/
def bS (k : Nat) (s : List Int) : List Int := List.replicate (k - s.length) 1 ++ s
def bwf (S T : List Int) (j : Nat) : Int := if j = 0 then S.getD 0 0 + T.getD 0 0 else max (S.getD j 0) (T.getD j 0)
def bW (S T : List Int) : List Int := updG (bwf S T) S S.length
def bV (S T a b t : List Int) : Int := if t.getD 0 0 < S.getD 0 0 then pkAt a (atF S t) else pkAt b (atF T (t.set 0 (t.getD 0 0 - S.getD 0 0)))
def bAs (S T a b : List Int) (k : Nat) : List Int := (List.range k).map fun (i : Nat) => bV S T a b (ixL (bW S T) i)
def bxs (s t : List Int) : List Int := if s.length = 0 then 1 :: t.tail else s
def bxa (s a t : List Int) : List Int := if s.length = 0 then List.replicate (pr t.tail).toNat (a.getD 0 0) else a
def bK (s t : List Int) : Nat := max s.length t.length
def bhW (s t : List Int) : List Int := bW (bS (bK s t) s) (bS (bK s t) t)
def bhE (s t : List Int) : Int := mdE (bhW s t)
def bhS (s t : List Int) : List Int := mdS (bhW s t)
def bhA (s a t b : List Int) : List Int := if mayE (bhW s t) = 0 then bAs (bS (bK s t) s) (bS (bK s t) t) a b (pr (bhW s t)).toNat else []
def beE (s t : List Int) : Int := if s.length = 0 ∧ t.length = 0 then 0 else bhE (bxs s t) (bxs t s)
def beS (s t : List Int) : List Int := if s.length = 0 ∧ t.length = 0 then [2] else bhS (bxs s t) (bxs t s)
def beA (s a t b : List Int) : List Int := if s.length = 0 ∧ t.length = 0 then [a.getD 0 0, b.getD 0 0] else bhA (bxs s t) (bxa s a t) (bxs t s) (bxa t b s)
theorem bS_len {k : Nat} {s : List Int} (h : s.length ≤ k) : (bS k s).length = k := by simp [bS]; omega
theorem bS_pr (k : Nat) (s : List Int) : pr (bS k s) = pr s := by unfold bS; rw [pr_app, pr_ones, Int.one_mul]
theorem bS_bd {s : List Int} (hm : mayE s = 0) (k j : Nat) : 0 ≤ (bS k s).getD j 0 ∧ (bS k s).getD j 0 ≤ 4096 := by
  unfold bS
  rw [getD_app, List.length_replicate]
  split
  · simp only [List.getD, List.getElem?_replicate]
    split <;> simp
  · exact may_bd hm _
theorem may_one {t : List Int} (hm : mayE t = 0) (h : t.length ≠ 0) : mayE (1 :: t.tail) = 0 := by
  have h1 := mayE_zero (may_tail hm)
  have h2 := (mayE_zero hm).2.1
  refine mayE_from (fun i => ?_) ?_ ?_
  · cases i with
    | zero => simp
    | succ i => simpa using h1.1 i
  · rw [List.length_cons, List.length_tail]; omega
  · rw [pm_cons', show max (1 : Int) 1 = 1 from rfl, Int.one_mul]; exact h1.2.2
theorem atF_bd3 (s t : List Int) (h0 : 0 ≤ pr s) : -1 ≤ atF s t ∧ (atF s t < pr s ∨ atF s t = -1) := by
  by_cases hm : mayE s = 0
  · have h := atF_bd hm t
    exact ⟨h.1, .inl h.2⟩
  · unfold atF plE
    rw [if_neg hm, if_neg hm]
    exact ⟨by omega, .inr rfl⟩
def bhL (b1 g1 g2 b8 bn bs : Nat) (qo : Option Addr) (qn qc : Nat) (so : Option Addr) (sc : Nat) (tp : Option Addr) (tc : Nat) (wo : Option Addr) (wn : Nat) (k : Nat) (vx vy : List Value) (P1 P2 : Pt) (S T BW a b : List Int) (j : Nat) : List Pt :=
  seqL bn bs qo qn qc BW ++ [Pt.row ⟨38, 2, some ⟨b1, 0, none⟩, 1, 1, vx⟩, Pt.row ⟨38, 2, some ⟨b1 + 1, 0, none⟩, 1, 1, vy⟩, Pt.row ⟨38, 2, some ⟨b1 + 1 + 1, 0, none⟩, 1, 1, [.slice none 0 0, .slice none 0 0]⟩, P1, P2,
    Pt.row ⟨25, 1, some ⟨g1, 0, none⟩, 1, 1, [.slice so k sc]⟩, Pt.ints 3 so k sc S, Pt.row ⟨25, 1, some ⟨g2, 0, none⟩, 1, 1, [.slice tp k tc]⟩, Pt.ints 3 tp k tc T, Pt.ints 3 wo k wn BW, PB b8 wo k wn (bAs S T a b j)]
/-- Two arrays that may be, none of them a scalar, in two boxes. -/
structure BhA (w wx : World) (b1 : Nat) (s a t b : List Int) (X Y : Ar) (P1 P2 : Pt) : Prop where
  sp : Sp Non w wx [Pt.row ⟨38, 2, some ⟨b1, 0, none⟩, 1, 1, [.slice X.sa X.sn X.sc, .slice X.aa X.an X.ac]⟩, Pt.row ⟨38, 2, some ⟨b1 + 1, 0, none⟩, 1, 1, [.slice Y.sa Y.sn Y.sc, .slice Y.aa Y.an Y.ac]⟩, Pt.row ⟨38, 2, some ⟨b1 + 1 + 1, 0, none⟩, 1, 1, [.slice none 0 0, .slice none 0 0]⟩, P1, P2]
  rx : ∀ w'' F, Below w.heap.size w w'' → P1.P w'' F → X.Is w''
  ry : ∀ w'' F, Below w.heap.size w w'' → P2.P w'' F → Y.Is w''
  xs : X.s = s
  xa : X.a = a
  ys : Y.s = t
  ya : Y.a = b
  mx : amE s a = 0
  my : amE t b = 0
  nx : s.length ≠ 0
  ny : t.length ≠ 0
set_option maxRecDepth 100000 in
set_option maxHeartbeats 3200000 in
theorem behind_ss {w : World} {X Y : Ar} (hX : X.Is w) (hY : Y.Is w) (hmx : amE X.s X.a = 0) (hmy : amE Y.s Y.a = 0) (h1 : X.sn = 0) (h2 : Y.sn = 0) : Calls Tryz.prog 98 #[X.v, Y.v] w (MadeE w [2] [X.a.getD 0 0, Y.a.getD 0 0] 0) := by
  have hx1 : X.an = 1 := by
    have e1 := (amE_zero hmx).2
    have e2 : X.s = [] := List.eq_nil_of_length_eq_zero (by rw [hX.shp.len]; exact h1)
    rw [e2] at e1
    have e3 := hX.ats.len
    have e4 : pr [] = 1 := rfl
    omega
  have hy1 : Y.an = 1 := by
    have e1 := (amE_zero hmy).2
    have e2 : Y.s = [] := List.eq_nil_of_length_eq_zero (by rw [hY.shp.len]; exact h2)
    rw [e2] at e1
    have e3 := hY.ats.len
    have e4 : pr [] = 1 := rfl
    omega
  obtain ⟨sa, sn, sc, aa, an, ac, s, a⟩ := X
  obtain ⟨ta, tn, tc, ba, bn, bc, t, b⟩ := Y
  simp only [Ar.v]
  simp only at h1 h2 hx1 hy1
  subst h1 h2 hx1 hy1
  obtain ⟨W, HW⟩ : ∃ z, Hid (((w.alloc (.cells #[.slice sa 0 sc, .slice aa 1 ac] 38)).alloc (.cells #[.slice ta 0 tc, .slice ba 1 bc] 38)).alloc (.cells #[.slice none 0 0, .slice none 0 0] 38) = z) := ⟨_, rfl⟩
  have hw0 := (((Sp.start Non w).alloc 38 2 1 #[.slice sa 0 sc, .slice aa 1 ac] rfl (by decide)).alloc 38 2 1 #[.slice ta 0 tc, .slice ba 1 bc] rfl (by decide)).alloc 38 2 1 #[.slice none 0 0, .slice none 0 0] rfl (by decide)
  rw [HW.out] at hw0
  have H1_ := hw0
  try simp only [List.cons_append, List.nil_append, List.set_cons_zero, List.set_cons_succ, List.map_cons, List.map_nil, List.getD_cons_zero, List.getD_cons_succ, World.size_alloc] at H1_
  have H1 := Lib.hid H1_
  clear H1_
  obtain ⟨b1, HB1⟩ : ∃ z, Hid (w.heap.size = z) := ⟨_, rfl⟩
  rw [HB1.out] at H1
  have y0 := H1.out.cell (i := 0) rfl 0 _ rfl
  have y1 := H1.out.cell (i := 0) rfl 1 _ rfl
  have y2 := H1.out.cell (i := 1) rfl 0 _ rfl
  have y3 := H1.out.cell (i := 1) rfl 1 _ rfl
  obtain ⟨b2, o2, e2, hc2⟩ := (hX.below H1.out.belowN (Nat.le_refl _)).ats.at (by simp only; omega)
  have d1 := hc2 0 (by simp only; omega)
  obtain ⟨b3, o3, e3, hc3⟩ := (hY.below H1.out.belowN (Nat.le_refl _)).ats.at (by simp only; omega)
  have d2 := hc3 0 (by simp only; omega)
  have hr1 := hX.ats.rng 0
  have hr2 := hY.ats.rng 0
  simp only [Nat.add_zero] at e2 d1 hr1 e3 d2 hr2
  subst e2 e3
  obtain ⟨x, HXX⟩ : ∃ z, Hid (a.getD 0 0 = z) := ⟨_, rfl⟩
  obtain ⟨y, HYY⟩ : ∃ z, Hid (b.getD 0 0 = z) := ⟨_, rfl⟩
  rw [HXX.out] at d1 hr1 ⊢
  rw [HYY.out] at d2 hr2 ⊢
  have HD : Hid ((b2 < w.heap.size ∧ w.cell? ⟨b2, o2, none⟩ = some (.int .i64 x)) ∧ (b3 < w.heap.size ∧ w.cell? ⟨b3, o3, none⟩ = some (.int .i64 y))) := by
    obtain ⟨g1, p1, e1, hl1, hq1⟩ := hX.ats.mem (by simp only; omega)
    obtain ⟨g2, p2, e2, hl2, hq2⟩ := hY.ats.mem (by simp only; omega)
    have k1 := hq1 0 (by simp only; omega)
    have k2 := hq2 0 (by simp only; omega)
    simp only [Nat.add_zero] at k1 k2
    cases e1
    cases e2
    exact ⟨⟨hl1, by rw [← HXX.out]; exact k1⟩, ⟨hl2, by rw [← HYY.out]; exact k2⟩⟩
  have KC : Hid (∀ w'', Below w.heap.size w w'' → w''.cell? ⟨b2, o2, none⟩ = some (.int .i64 x) ∧ w''.cell? ⟨b3, o3, none⟩ = some (.int .i64 y)) := fun w'' hb =>
    ⟨(hb.cell (p := ⟨b2, o2, none⟩) HD.out.1.1).trans HD.out.1.2, (hb.cell (p := ⟨b3, o3, none⟩) HD.out.2.1).trans HD.out.2.2⟩
  have hl2 := HD.out.1.1
  have hl3 := HD.out.2.1
  have hb1e := HB1.out
  have n1 : ¬ b1 + 1 + 1 = b1 := by omega
  have n2 : ¬ b1 = b1 + 1 + 1 := by omega
  have n3 : ¬ b1 + 1 + 1 = b2 := by omega
  have n4 : ¬ b2 = b1 + 1 + 1 := by omega
  have n5 : ¬ b1 + 1 + 1 = b3 := by omega
  have n6 : ¬ b3 = b1 + 1 + 1 := by omega
  clear hb1e hl2 hl3
  have h3 := ((H1.out.alloc 2 1 2 #[.int .i64 x, .int .i64 y] rfl (by decide)).toInts (i := 3) (zs := [x, y]) rfl (by omega) (fun i => by
    match i with
    | 0 => simpa [List.getD] using hr1
    | 1 => simpa [List.getD] using hr2
    | i + 2 => simp [List.getD])).via (adrew1 _)
  have H3_ := h3
  try simp only [List.cons_append, List.nil_append, List.set_cons_zero, List.set_cons_succ, List.map_cons, List.map_nil, List.getD_cons_zero, List.getD_cons_succ, World.size_alloc] at H3_
  have H3 := Lib.hid H3_
  clear H3_
  have CC := Lib.hid (list_ok (H3.out.ls (i := 3) rfl) (by omega))
  clear hX hY hmx hmy hw0 h3 hc2 hc3 hr1 hr2
  refine calls_marks Tryz.func98 rfl ?_
  simp only [Tryz.ntmps98, List.size_toArray, List.length_cons, List.length_nil, Nat.reduceAdd, Nat.reduceSub, Array.replicate_succ, Array.replicate_zero, List.push_toArray, List.append_toArray, List.nil_append, List.cons_append]
  go_upto_region 2 with fail
  rw [HW.out, HB1.out]
  go_region_held3 (fun w'' => w''.cell? ⟨b1, 1, none⟩ = some (.slice (some ⟨b2, o2, none⟩) 1 ac) ∧ w''.cell? ⟨b1 + 1, 1, none⟩ = some (.slice (some ⟨b3, o3, none⟩) 1 bc) ∧ w''.cell? ⟨b2, o2, none⟩ = some (.int .i64 x) ∧ w''.cell? ⟨b3, o3, none⟩ = some (.int .i64 y)) (go_keep)
    (first
    | (go_at_call 97; (with_reducible refine Calls.mono CC.out ?_); rintro e w7 ⟨⟨za, zn, zc, xa, xm, xc, zs, zt⟩, rfl, hI, hs, ha, hO, hb⟩; have H7 := Lib.hid (H3.out.arrNew hI hO hb); have HBW := Lib.hid H7.out.belowN; simp only at hs ha; simp only [Ar.v]; clear hI hO hb y0 y1 y2 y3 d1 d2; have y0 := H7.out.cell (i := 0) rfl 1 _ rfl; have y1 := H7.out.cell (i := 1) rfl 1 _ rfl; have d1 := (HBW.out.cell (p := ⟨b2, o2, none⟩) HD.out.1.1).trans HD.out.1.2; have d2 := (HBW.out.cell (p := ⟨b3, o3, none⟩) HD.out.2.1).trans HD.out.2.2; have x0 := H7.out.cell (i := 2) rfl 0 _ rfl; have x1 := H7.out.cell (i := 2) rfl 1 _ rfl; have f0 := H7.out.frozen (i := 2) rfl 0; have f1 := H7.out.frozen (i := 2) rfl 1))
  all_goals
    have HF : Hid (∀ u v, MadeE w [2] [x, y] 0 (.returned (.tuple #[.agg #[.slice za zn zc, .slice xa xm xc], .int .i64 0])) ((w7.setCell ⟨b1 + 1 + 1, 0, none⟩ u).setCell ⟨b1 + 1 + 1, 1, none⟩ v)) := fun u v => by
      have h := ((H7.out.put (i := 2) rfl 0 u).put (i := 2) rfl 1 v).madeE (i := 4) (B := ⟨za, zn, zc, xa, xm, xc, zs, zt⟩) rfl 0
      rw [hs, ha] at h
      exact h
    clear H7 hs ha
    go_wp2
    exact marks_ret0 (v := .tuple #[.agg #[.slice za zn zc, .slice xa xm xc], .int .i64 0]) rfl (by simp [results, Tryz.f98, go_sem, *]) (HF.out _ _)
set_option maxRecDepth 100000 in
set_option maxHeartbeats 6400000 in
theorem behind_ok {w : World} {X Y : Ar} (hX : X.Is w) (hY : Y.Is w) (hmx : amE X.s X.a = 0) (hmy : amE Y.s Y.a = 0) (hn : ¬ (X.sn = 0 ∧ Y.sn = 0)) :
    Calls Tryz.prog 98 #[X.v, Y.v] w (MadeE w (bhS (bxs X.s Y.s) (bxs Y.s X.s)) (bhA (bxs X.s Y.s) (bxa X.s X.a Y.s) (bxs Y.s X.s) (bxa Y.s Y.a X.s)) (bhE (bxs X.s Y.s) (bxs Y.s X.s))) := by
  obtain ⟨sa, sn, sc, aa, an, ac, s0, a0⟩ := X
  obtain ⟨ta, tn, tc, ba, bn, bc, t0, b0⟩ := Y
  simp only [Ar.v]
  simp only at hn hmx hmy
  have hsl : s0.length = sn := hX.shp.len
  have htl : t0.length = tn := hY.shp.len
  obtain ⟨s, HSS⟩ : ∃ z, Hid (bxs s0 t0 = z) := ⟨_, rfl⟩
  obtain ⟨t, HTT⟩ : ∃ z, Hid (bxs t0 s0 = z) := ⟨_, rfl⟩
  obtain ⟨a, HAA⟩ : ∃ z, Hid (bxa s0 a0 t0 = z) := ⟨_, rfl⟩
  obtain ⟨b, HBB⟩ : ∃ z, Hid (bxa t0 b0 s0 = z) := ⟨_, rfl⟩
  rw [HSS.out, HTT.out, HAA.out, HBB.out]
  obtain ⟨RE, HRE⟩ : ∃ z, Hid (z = bhE s t) := ⟨_, rfl⟩
  obtain ⟨RS, HRS⟩ : ∃ z, Hid (z = bhS s t) := ⟨_, rfl⟩
  obtain ⟨RA, HRA⟩ : ∃ z, Hid (z = bhA s a t b) := ⟨_, rfl⟩
  rw [← HRE.out, ← HRS.out, ← HRA.out]
  obtain ⟨W, HW⟩ : ∃ z, Hid (((w.alloc (.cells #[.slice sa sn sc, .slice aa an ac] 38)).alloc (.cells #[.slice ta tn tc, .slice ba bn bc] 38)).alloc (.cells #[.slice none 0 0, .slice none 0 0] 38) = z) := ⟨_, rfl⟩
  have hw0 := (((Sp.start Non w).alloc 38 2 1 #[.slice sa sn sc, .slice aa an ac] rfl (by decide)).alloc 38 2 1 #[.slice ta tn tc, .slice ba bn bc] rfl (by decide)).alloc 38 2 1 #[.slice none 0 0, .slice none 0 0] rfl (by decide)
  rw [HW.out] at hw0
  have H1_ := hw0
  try simp only [List.cons_append, List.nil_append, List.set_cons_zero, List.set_cons_succ, List.map_cons, List.map_nil, List.getD_cons_zero, List.getD_cons_succ, World.size_alloc] at H1_
  have H1 := Lib.hid H1_
  clear H1_
  obtain ⟨b1, HB1⟩ : ∃ z, Hid (w.heap.size = z) := ⟨_, rfl⟩
  rw [HB1.out] at H1
  have HX := Lib.hid hX
  have HY := Lib.hid hY
  have HMX := Lib.hid hmx
  have HMY := Lib.hid hmy
  have HL := Lib.hid (And.intro hsl htl)
  have HN := Lib.hid hn
  have y0 := H1.out.cell (i := 0) rfl 0 _ rfl
  have y1 := H1.out.cell (i := 0) rfl 1 _ rfl
  have y2 := H1.out.cell (i := 1) rfl 0 _ rfl
  have y3 := H1.out.cell (i := 1) rfl 1 _ rfl
  clear hX hY hw0 hmx hmy hsl htl hn
  refine calls_marks Tryz.func98 rfl ?_
  simp only [Tryz.ntmps98, List.size_toArray, List.length_cons, List.length_nil, Nat.reduceAdd, Nat.reduceSub, Array.replicate_succ, Array.replicate_zero, List.push_toArray, List.append_toArray, List.nil_append, List.cons_append]
  go_upto_block 0 with fail
  rw [HW.out, HB1.out]
  go_cut [] from 17 to 63 (fun wx => ∃ (A B : Ar) (P1 P2 : Pt), Hid (BhA w wx b1 s a t b A B P1 P2))
  case first =>
    have hcase : (sn = 0 ∧ tn ≠ 0) ∨ (sn ≠ 0 ∧ tn = 0) ∨ (sn ≠ 0 ∧ tn ≠ 0) := by have := HN.out; omega
    rcases hcase with ⟨hs0, ht0⟩ | ⟨hs0, ht0⟩ | ⟨hs0, ht0⟩
    · have ha1 : 0 < an ∧ 0 < an := by
        have e1 := (amE_zero HMX.out).2
        have e2 : s0 = [] := List.eq_nil_of_length_eq_zero (by rw [HL.out.1]; exact hs0)
        rw [e2] at e1
        have e3 := HX.out.ats.len
        have e4 : pr [] = 1 := rfl
        simp only at e3
        omega
      have hmq := may_one (amE_zero HMY.out).1 (by rw [HL.out.2]; exact ht0)
      have hpq : pr (1 :: t0.tail) = pr t0.tail := by rw [pr_cons, Int.one_mul]
      have hmdq : mdS (1 :: t0.tail) = 1 :: t0.tail := if_pos hmq
      have hovq : ovA (1 :: t0.tail) (a0.getD 0 0) = List.replicate (pr t0.tail).toNat (a0.getD 0 0) := by unfold ovA; rw [if_pos hmq, hpq]
      have HQ : Hid (∀ (wx : World) (Z : Ar), Z.s = 1 :: t0.tail → Z.a = List.replicate (pr t0.tail).toNat (a0.getD 0 0) → Sp Non w wx [Pt.row ⟨38, 2, some ⟨b1, 0, none⟩, 1, 1, [.slice Z.sa Z.sn Z.sc, .slice Z.aa Z.an Z.ac]⟩, Pt.row ⟨38, 2, some ⟨b1 + 1, 0, none⟩, 1, 1, [.slice ta tn tc, .slice ba bn bc]⟩, Pt.row ⟨38, 2, some ⟨b1 + 1 + 1, 0, none⟩, 1, 1, [.slice none 0 0, .slice none 0 0]⟩, Pt.arr Z, Pt.all []] → ∃ (A B : Ar) (P1 P2 : Pt), Hid (BhA w wx b1 s a t b A B P1 P2)) := fun wx Z hzs hza hsp => by
        have e1 : s = 1 :: t0.tail := by rw [← HSS.out, bxs, if_pos (by rw [HL.out.1]; exact hs0)]
        have e2 : t = t0 := by rw [← HTT.out, bxs, if_neg (by rw [HL.out.2]; exact ht0)]
        have e3 : a = List.replicate (pr t0.tail).toNat (a0.getD 0 0) := by rw [← HAA.out, bxa, if_pos (by rw [HL.out.1]; exact hs0)]
        have e4 : b = b0 := by rw [← HBB.out, bxa, if_neg (by rw [HL.out.2]; exact ht0)]
        have e5 : amE (1 :: t0.tail) (List.replicate (pr t0.tail).toNat (a0.getD 0 0)) = 0 := by
          unfold amE
          rw [if_pos hmq, if_pos (by rw [hpq, List.length_replicate]; have := pr_nonneg (may_tail (amE_zero HMY.out).1); omega)]
        rw [e1, e2, e3, e4]
        exact ⟨Z, ⟨ta, tn, tc, ba, bn, bc, t0, b0⟩, Pt.arr Z, Pt.all [], hsp, fun w'' F hb hP => (Pt.arr_own hP).1, fun w'' F hb _ => HY.out.below hb (Nat.le_refl _), hzs, hza, rfl, rfl, e5, HMY.out, by simp, by rw [HL.out.2]; exact ht0⟩
      have CR : Hid (∀ w', Below w.heap.size w w' → Calls Tryz.prog 127 #[.agg #[.slice ta tn tc, .slice ba bn bc]] w' (RestP w' ta tn tc t0)) := fun w' hb => by
        have h := rest6_any (HY.out.below hb (Nat.le_refl _))
        simp only [Ar.v] at h
        exact h
      have htn8 : tn ≤ 8 := by have := (mayE_zero (amE_zero HMY.out).1).2.1; rw [HL.out.2] at this; exact this
      have Ha_ := H1.out.via (adrew1 W)
      try simp only [List.cons_append, List.nil_append, List.set_cons_zero, List.set_cons_succ, List.map_cons, List.map_nil, List.getD_cons_zero, List.getD_cons_succ, World.size_alloc] at Ha_
      have Ha := Lib.hid Ha_
      clear Ha_
      have Hb_ := ((H1.out.alloc 3 1 1 #[.int .i64 1] rfl (by decide)).via (adrew1 _)).toInts (i := 3) (zs := [1]) rfl (by omega) (rng_one (by omega))
      try simp only [List.cons_append, List.nil_append, List.set_cons_zero, List.set_cons_succ, List.map_cons, List.map_nil, List.getD_cons_zero, List.getD_cons_succ, World.size_alloc] at Hb_
      have Hb := Lib.hid Hb_
      clear Hb_
      have CRa := Lib.hid (CR.out _ Ha.out.belowN)
      have CRb := Lib.hid (CR.out _ Hb.out.belowN)
      have hAN := ha1.1
      have HMDQ := Lib.hid (And.intro hmdq hovq)
      have hlw := (H1.out.rlt (i := 2) rfl).1
      have n1 : ¬ W.heap.size = b1 := by omega
      have n2 : ¬ b1 = W.heap.size := by omega
      have n3 : ¬ W.heap.size = b1 + 1 := by omega
      have n4 : ¬ b1 + 1 = W.heap.size := by omega
      have HNE : Hid (∀ n : Nat, b1 + 1 + 1 < n → (¬ n = b1) ∧ (¬ b1 = n) ∧ (¬ n = b1 + 1) ∧ (¬ b1 + 1 = n) ∧ (¬ n + 1 = b1) ∧ (¬ b1 = n + 1) ∧ (¬ n + 1 = b1 + 1) ∧ (¬ b1 + 1 = n + 1) ∧ b1 < n ∧ b1 + 1 < n) := fun n hn => by omega
      have l1 : b1 < W.heap.size := by omega
      have l2 : b1 + 1 < W.heap.size := by omega
      clear CR hmq hpq hmdq hovq ha1 hlw
      have q1 : ((tn : Int) == 0) = false := by simp; omega
      subst hs0
      go_upto_region 4 with fail
      go_region_law (first
        | ((try go_simp); go_at_call 127; (with_reducible refine Calls.mono CRa.out ?_); rintro e wb ⟨ro, rn, rc, rfl, hl, hbb, -⟩; have hlr := hl.len; have HR := Lib.hid (Ha.out.via hbb); have hc0 := (((HR.out.alloc 3 1 1 #[.int .i64 1] rfl (by decide)).toInts (i := 3) (zs := [1]) rfl (by omega) (rng_one (by omega))).alloc 25 1 2 #[.slice (some ⟨wb.heap.size, 0, none⟩) 1 1, .slice ro rn rc] rfl (by decide)); simp only [World.size_alloc] at hc0; have CT := Lib.hid (concat_two (hc0.rlt (i := 4) rfl).1 (hc0.cell (i := 4) rfl 0 _ rfl) (hc0.cell (i := 4) rfl 1 _ rfl) (hc0.ls (i := 3) rfl) ((hl.via (abal wb _)).via (abal _ _)) (by omega) (by have h9 := hlr; rw [List.length_tail, HL.out.2] at h9; omega)); have HC := Lib.hid hc0; obtain ⟨m1, m2, m3, m4, m5, m6, m7, m8, m9, m10⟩ := HNE.out _ (HR.out.rlt (i := 2) rfl).1; clear hl hbb hlr hc0 y0 y1 y2 y3; have y0 := HR.out.cell (i := 0) rfl 0 _ rfl; have y1 := HR.out.cell (i := 0) rfl 1 _ rfl; have y2 := HR.out.cell (i := 1) rfl 0 _ rfl; have y3 := HR.out.cell (i := 1) rfl 1 _ rfl)
        | ((try go_simp); go_at_call 127; (with_reducible refine Calls.mono CRb.out ?_); rintro e wb ⟨ro, rn, rc, rfl, hl, hbb, -⟩; have hlr := hl.len; have HR := Lib.hid (Hb.out.via hbb); have hc0 := (HR.out.alloc 25 1 2 #[.slice (some ⟨W.heap.size, 0, none⟩) 1 1, .slice ro rn rc] rfl (by decide)); have CT := Lib.hid (concat_two (hc0.rlt (i := 4) rfl).1 (hc0.cell (i := 4) rfl 0 _ rfl) (hc0.cell (i := 4) rfl 1 _ rfl) (hc0.ls (i := 3) rfl) (hl.via (abal wb _)) (by omega) (by have h9 := hlr; rw [List.length_tail, HL.out.2] at h9; omega)); have HC := Lib.hid hc0; obtain ⟨m1, m2, m3, m4, m5, m6, m7, m8, m9, m10⟩ := HNE.out _ (HR.out.rlt (i := 2) rfl).1; clear hl hbb hlr hc0 y0 y1 y2 y3; have y0 := HR.out.cell (i := 0) rfl 0 _ rfl; have y1 := HR.out.cell (i := 0) rfl 1 _ rfl; have y2 := HR.out.cell (i := 1) rfl 0 _ rfl; have y3 := HR.out.cell (i := 1) rfl 1 _ rfl)
        | ((try go_simp); go_at_call 103; (with_reducible refine Calls.mono CT.out ?_); rintro e w5 ⟨lo, ln, lc, rfl, hL5, hO5, hB5⟩; have H5 := Lib.hid (HC.out.intsNew hO5 hB5 hL5.big hL5.rng); have CO := over_any (HX.out.below H5.out.belowN (Nat.le_refl _)) hAN hL5; simp only [Ar.v] at CO; clear hL5 hO5 hB5 y0 y1 y2 y3; have y0 := H5.out.cell (i := 0) rfl 0 _ rfl; have y1 := H5.out.cell (i := 0) rfl 1 _ rfl; have y2 := H5.out.cell (i := 1) rfl 0 _ rfl; have y3 := H5.out.cell (i := 1) rfl 1 _ rfl)
        | ((try go_simp); go_at_call 129; (with_reducible refine Calls.mono CO ?_); rintro e w6 ⟨⟨za, zn, zc, xa, xn, xc, zs, zt⟩, rfl, hI, hs, ha, hO, hb⟩; have H6 := Lib.hid (H5.out.arrNew hI hO hb); simp only at hs ha; simp only [Ar.v]; clear hI hO hb y0 y1 y2 y3; have y0 := H6.out.cell (i := 0) rfl 0 _ rfl; have y1 := H6.out.cell (i := 0) rfl 1 _ rfl; have y2 := H6.out.cell (i := 1) rfl 0 _ rfl; have y3 := H6.out.cell (i := 1) rfl 1 _ rfl; have f0 := H6.out.frozen (i := 0) rfl 0; have f1 := H6.out.frozen (i := 0) rfl 1))
      all_goals
        have HZ := Lib.hid (HQ.out _ ⟨za, zn, zc, xa, xn, xc, zs, zt⟩ (hs.trans HMDQ.out.1) (ha.trans HMDQ.out.2) ((((H6.out.put (i := 0) rfl 0 (.slice za zn zc)).put (i := 0) rfl 1 (.slice xa xn xc)).allNil).pick [0, 1, 2, 6, 7] (by decide)))
        clear hs ha H6
        go_wp2_with fail
        go_meet
        exact HZ.out
    · have ha1 : 0 < bn ∧ 0 < bn := by
        have e1 := (amE_zero HMY.out).2
        have e2 : t0 = [] := List.eq_nil_of_length_eq_zero (by rw [HL.out.2]; exact ht0)
        rw [e2] at e1
        have e3 := HY.out.ats.len
        have e4 : pr [] = 1 := rfl
        simp only at e3
        omega
      have hmq := may_one (amE_zero HMX.out).1 (by rw [HL.out.1]; exact hs0)
      have hpq : pr (1 :: s0.tail) = pr s0.tail := by rw [pr_cons, Int.one_mul]
      have hmdq : mdS (1 :: s0.tail) = 1 :: s0.tail := if_pos hmq
      have hovq : ovA (1 :: s0.tail) (b0.getD 0 0) = List.replicate (pr s0.tail).toNat (b0.getD 0 0) := by unfold ovA; rw [if_pos hmq, hpq]
      have HQ : Hid (∀ (wx : World) (Z : Ar), Z.s = 1 :: s0.tail → Z.a = List.replicate (pr s0.tail).toNat (b0.getD 0 0) → Sp Non w wx [Pt.row ⟨38, 2, some ⟨b1, 0, none⟩, 1, 1, [.slice sa sn sc, .slice aa an ac]⟩, Pt.row ⟨38, 2, some ⟨b1 + 1, 0, none⟩, 1, 1, [.slice Z.sa Z.sn Z.sc, .slice Z.aa Z.an Z.ac]⟩, Pt.row ⟨38, 2, some ⟨b1 + 1 + 1, 0, none⟩, 1, 1, [.slice none 0 0, .slice none 0 0]⟩, Pt.all [], Pt.arr Z] → ∃ (A B : Ar) (P1 P2 : Pt), Hid (BhA w wx b1 s a t b A B P1 P2)) := fun wx Z hzs hza hsp => by
        have e1 : t = 1 :: s0.tail := by rw [← HTT.out, bxs, if_pos (by rw [HL.out.2]; exact ht0)]
        have e2 : s = s0 := by rw [← HSS.out, bxs, if_neg (by rw [HL.out.1]; exact hs0)]
        have e3 : b = List.replicate (pr s0.tail).toNat (b0.getD 0 0) := by rw [← HBB.out, bxa, if_pos (by rw [HL.out.2]; exact ht0)]
        have e4 : a = a0 := by rw [← HAA.out, bxa, if_neg (by rw [HL.out.1]; exact hs0)]
        have e5 : amE (1 :: s0.tail) (List.replicate (pr s0.tail).toNat (b0.getD 0 0)) = 0 := by
          unfold amE
          rw [if_pos hmq, if_pos (by rw [hpq, List.length_replicate]; have := pr_nonneg (may_tail (amE_zero HMX.out).1); omega)]
        rw [e1, e2, e3, e4]
        exact ⟨⟨sa, sn, sc, aa, an, ac, s0, a0⟩, Z, Pt.all [], Pt.arr Z, hsp, fun w'' F hb _ => HX.out.below hb (Nat.le_refl _), fun w'' F hb hP => (Pt.arr_own hP).1, rfl, rfl, hzs, hza, HMX.out, e5, by rw [HL.out.1]; exact hs0, by simp⟩
      have CR : Hid (∀ w', Below w.heap.size w w' → Calls Tryz.prog 127 #[.agg #[.slice sa sn sc, .slice aa an ac]] w' (RestP w' sa sn sc s0)) := fun w' hb => by
        have h := rest6_any (HX.out.below hb (Nat.le_refl _))
        simp only [Ar.v] at h
        exact h
      have htn8 : sn ≤ 8 := by have := (mayE_zero (amE_zero HMX.out).1).2.1; rw [HL.out.1] at this; exact this
      have Ha_ := H1.out.via (adrew1 W)
      try simp only [List.cons_append, List.nil_append, List.set_cons_zero, List.set_cons_succ, List.map_cons, List.map_nil, List.getD_cons_zero, List.getD_cons_succ, World.size_alloc] at Ha_
      have Ha := Lib.hid Ha_
      clear Ha_
      have Hb_ := ((H1.out.alloc 3 1 1 #[.int .i64 1] rfl (by decide)).via (adrew1 _)).toInts (i := 3) (zs := [1]) rfl (by omega) (rng_one (by omega))
      try simp only [List.cons_append, List.nil_append, List.set_cons_zero, List.set_cons_succ, List.map_cons, List.map_nil, List.getD_cons_zero, List.getD_cons_succ, World.size_alloc] at Hb_
      have Hb := Lib.hid Hb_
      clear Hb_
      have CRa := Lib.hid (CR.out _ Ha.out.belowN)
      have CRb := Lib.hid (CR.out _ Hb.out.belowN)
      have hAN := ha1.1
      have HMDQ := Lib.hid (And.intro hmdq hovq)
      have hlw := (H1.out.rlt (i := 2) rfl).1
      have n1 : ¬ W.heap.size = b1 := by omega
      have n2 : ¬ b1 = W.heap.size := by omega
      have n3 : ¬ W.heap.size = b1 + 1 := by omega
      have n4 : ¬ b1 + 1 = W.heap.size := by omega
      have HNE : Hid (∀ n : Nat, b1 + 1 + 1 < n → (¬ n = b1) ∧ (¬ b1 = n) ∧ (¬ n = b1 + 1) ∧ (¬ b1 + 1 = n) ∧ (¬ n + 1 = b1) ∧ (¬ b1 = n + 1) ∧ (¬ n + 1 = b1 + 1) ∧ (¬ b1 + 1 = n + 1) ∧ b1 < n ∧ b1 + 1 < n) := fun n hn => by omega
      have l1 : b1 < W.heap.size := by omega
      have l2 : b1 + 1 < W.heap.size := by omega
      clear CR hmq hpq hmdq hovq ha1 hlw
      have q1 : ((sn : Int) == 0) = false := by simp; omega
      subst ht0
      go_upto_region 6 with fail
      go_region_law (first
        | ((try go_simp); go_at_call 127; (with_reducible refine Calls.mono CRa.out ?_); rintro e wb ⟨ro, rn, rc, rfl, hl, hbb, -⟩; have hlr := hl.len; have HR := Lib.hid (Ha.out.via hbb); have hc0 := (((HR.out.alloc 3 1 1 #[.int .i64 1] rfl (by decide)).toInts (i := 3) (zs := [1]) rfl (by omega) (rng_one (by omega))).alloc 25 1 2 #[.slice (some ⟨wb.heap.size, 0, none⟩) 1 1, .slice ro rn rc] rfl (by decide)); simp only [World.size_alloc] at hc0; have CT := Lib.hid (concat_two (hc0.rlt (i := 4) rfl).1 (hc0.cell (i := 4) rfl 0 _ rfl) (hc0.cell (i := 4) rfl 1 _ rfl) (hc0.ls (i := 3) rfl) ((hl.via (abal wb _)).via (abal _ _)) (by omega) (by have h9 := hlr; rw [List.length_tail, HL.out.1] at h9; omega)); have HC := Lib.hid hc0; obtain ⟨m1, m2, m3, m4, m5, m6, m7, m8, m9, m10⟩ := HNE.out _ (HR.out.rlt (i := 2) rfl).1; clear hl hbb hlr hc0 y0 y1 y2 y3; have y0 := HR.out.cell (i := 0) rfl 0 _ rfl; have y1 := HR.out.cell (i := 0) rfl 1 _ rfl; have y2 := HR.out.cell (i := 1) rfl 0 _ rfl; have y3 := HR.out.cell (i := 1) rfl 1 _ rfl)
        | ((try go_simp); go_at_call 127; (with_reducible refine Calls.mono CRb.out ?_); rintro e wb ⟨ro, rn, rc, rfl, hl, hbb, -⟩; have hlr := hl.len; have HR := Lib.hid (Hb.out.via hbb); have hc0 := (HR.out.alloc 25 1 2 #[.slice (some ⟨W.heap.size, 0, none⟩) 1 1, .slice ro rn rc] rfl (by decide)); have CT := Lib.hid (concat_two (hc0.rlt (i := 4) rfl).1 (hc0.cell (i := 4) rfl 0 _ rfl) (hc0.cell (i := 4) rfl 1 _ rfl) (hc0.ls (i := 3) rfl) (hl.via (abal wb _)) (by omega) (by have h9 := hlr; rw [List.length_tail, HL.out.1] at h9; omega)); have HC := Lib.hid hc0; obtain ⟨m1, m2, m3, m4, m5, m6, m7, m8, m9, m10⟩ := HNE.out _ (HR.out.rlt (i := 2) rfl).1; clear hl hbb hlr hc0 y0 y1 y2 y3; have y0 := HR.out.cell (i := 0) rfl 0 _ rfl; have y1 := HR.out.cell (i := 0) rfl 1 _ rfl; have y2 := HR.out.cell (i := 1) rfl 0 _ rfl; have y3 := HR.out.cell (i := 1) rfl 1 _ rfl)
        | ((try go_simp); go_at_call 103; (with_reducible refine Calls.mono CT.out ?_); rintro e w5 ⟨lo, ln, lc, rfl, hL5, hO5, hB5⟩; have H5 := Lib.hid (HC.out.intsNew hO5 hB5 hL5.big hL5.rng); have CO := over_any (HY.out.below H5.out.belowN (Nat.le_refl _)) hAN hL5; simp only [Ar.v] at CO; clear hL5 hO5 hB5 y0 y1 y2 y3; have y0 := H5.out.cell (i := 0) rfl 0 _ rfl; have y1 := H5.out.cell (i := 0) rfl 1 _ rfl; have y2 := H5.out.cell (i := 1) rfl 0 _ rfl; have y3 := H5.out.cell (i := 1) rfl 1 _ rfl)
        | ((try go_simp); go_at_call 129; (with_reducible refine Calls.mono CO ?_); rintro e w6 ⟨⟨za, zn, zc, xa, xn, xc, zs, zt⟩, rfl, hI, hs, ha, hO, hb⟩; have H6 := Lib.hid (H5.out.arrNew hI hO hb); simp only at hs ha; simp only [Ar.v]; clear hI hO hb y0 y1 y2 y3; have y0 := H6.out.cell (i := 0) rfl 0 _ rfl; have y1 := H6.out.cell (i := 0) rfl 1 _ rfl; have y2 := H6.out.cell (i := 1) rfl 0 _ rfl; have y3 := H6.out.cell (i := 1) rfl 1 _ rfl; have f0 := H6.out.frozen (i := 1) rfl 0; have f1 := H6.out.frozen (i := 1) rfl 1))
      all_goals
        have HZ := Lib.hid (HQ.out _ ⟨za, zn, zc, xa, xn, xc, zs, zt⟩ (hs.trans HMDQ.out.1) (ha.trans HMDQ.out.2) ((((H6.out.put (i := 1) rfl 0 (.slice za zn zc)).put (i := 1) rfl 1 (.slice xa xn xc)).allNil).pick [0, 1, 2, 7, 6] (by decide)))
        clear hs ha H6
        go_wp2_with fail
        go_meet
        exact HZ.out
    · have q0 : ((sn : Int) == 0) = false := by simp; omega
      have q1 : ((tn : Int) == 0) = false := by simp; omega
      have HQ : Hid (BhA w W b1 s a t b ⟨sa, sn, sc, aa, an, ac, s0, a0⟩ ⟨ta, tn, tc, ba, bn, bc, t0, b0⟩ (Pt.all []) (Pt.all [])) := by
        have e1 : s = s0 := by rw [← HSS.out, bxs, if_neg (by rw [HL.out.1]; exact hs0)]
        have e2 : t = t0 := by rw [← HTT.out, bxs, if_neg (by rw [HL.out.2]; exact ht0)]
        have e3 : a = a0 := by rw [← HAA.out, bxa, if_neg (by rw [HL.out.1]; exact hs0)]
        have e4 : b = b0 := by rw [← HBB.out, bxa, if_neg (by rw [HL.out.2]; exact ht0)]
        rw [e1, e2, e3, e4]
        exact ⟨H1.out.allNil.allNil, fun w'' F hb _ => HX.out.below hb (Nat.le_refl _), fun w'' F hb _ => HY.out.below hb (Nat.le_refl _), rfl, rfl, rfl, rfl, HMX.out, HMY.out, by rw [HL.out.1]; exact hs0, by rw [HL.out.2]; exact ht0⟩
      clear H1
      go_wp2_with fail
      go_meet
      exact ⟨_, _, _, _, HQ⟩
  case rest =>
    obtain ⟨⟨xsa, xsn, xsc, xaa, xan, xac, xs, xa⟩, ⟨ysa, ysn, ysc, yaa, yan, yac, ys, ya⟩, P1, P2, HA⟩ := hcut
    obtain ⟨U, hU⟩ : ∃ z : World, z = wc := ⟨_, rfl⟩
    subst hU
    obtain ⟨hsp, hrx, hry, e1, e2, e3, e4, hmx, hmy, hnx, hny⟩ := HA.out
    simp only at hsp hrx hry e1 e2 e3 e4
    subst e1 e2 e3 e4
    have HS0 := Lib.hid hsp
    have HRX := Lib.hid hrx
    have HRY := Lib.hid hry
    obtain ⟨FX, hFX, -⟩ := hsp.get (i := 3) rfl
    obtain ⟨FY, hFY, -⟩ := hsp.get (i := 4) rfl
    have hIX := hrx U FX hsp.belowN hFX
    have hIY := hry U FY hsp.belowN hFY
    have hxl : xs.length = xsn := hIX.shp.len
    have hyl : ys.length = ysn := hIY.shp.len
    have hxal : xa.length = xan := hIX.ats.len
    have hyal : ya.length = yan := hIY.ats.len
    obtain ⟨hmx1, hmx2⟩ := amE_zero hmx
    obtain ⟨hmy1, hmy2⟩ := amE_zero hmy
    have hx8 := (mayE_zero hmx1).2.1
    have hy8 := (mayE_zero hmy1).2.1
    obtain ⟨k, HK⟩ : ∃ z, Hid (bK xs ys = z) := ⟨_, rfl⟩
    have hkk : max xsn ysn = k := by rw [← HK.out, bK, hxl, hyl]
    obtain ⟨S, HSS2⟩ : ∃ z, Hid (bS k xs = z) := ⟨_, rfl⟩
    obtain ⟨T, HTT2⟩ : ∃ z, Hid (bS k ys = z) := ⟨_, rfl⟩
    have hSl : S.length = k := by rw [← HSS2.out]; exact bS_len (by omega)
    have hTl : T.length = k := by rw [← HTT2.out]; exact bS_len (by omega)
    have HSB : Hid (∀ j, 0 ≤ S.getD j 0 ∧ S.getD j 0 ≤ 4096) := fun j => by rw [← HSS2.out]; exact bS_bd hmx1 k j
    have HTB : Hid (∀ j, 0 ≤ T.getD j 0 ∧ T.getD j 0 ≤ 4096) := fun j => by rw [← HTT2.out]; exact bS_bd hmy1 k j
    have HPS : Hid (pr S = xan) := by show _ = _; rw [← HSS2.out, bS_pr, hmx2, hxal]
    have HPT : Hid (pr T = yan) := by show _ = _; rw [← HTT2.out, bS_pr, hmy2, hyal]
    obtain ⟨BW, HBW⟩ : ∃ z, Hid (bW S T = z) := ⟨_, rfl⟩
    have hwh : bhW xs ys = BW := by unfold bhW; rw [HK.out, HSS2.out, HTT2.out, HBW.out]
    have HE : Hid (RE = mdE BW ∧ RS = mdS BW ∧ RA = if mayE BW = 0 then bAs S T xa ya (pr BW).toNat else []) := ⟨by rw [HRE.out, bhE, hwh], by rw [HRS.out, bhS, hwh], by rw [HRA.out, bhA, hwh, HK.out, HSS2.out, HTT2.out]⟩
    have hk1 : 1 ≤ k := by omega
    have hk8 : k ≤ 8 := by omega
    have HKL := Lib.hid (And.intro hSl hTl)
    have HDK := Lib.hid (And.intro hk1 hk8)
    have hka : max (xsn : Int) ysn = k := by omega
    obtain ⟨d1, hd1⟩ : ∃ d, k - xsn = d := ⟨_, rfl⟩
    obtain ⟨d2, hd2⟩ : ∃ d, k - ysn = d := ⟨_, rfl⟩
    have hd1i : (k : Int) - xsn = d1 := by omega
    have hd2i : (k : Int) - ysn = d2 := by omega
    have z1 : IntKind.i64.wrap ((k : Int) - xsn) = d1 := by rw [hd1i]; exact IntWalk.i64_in _ (by omega)
    have z2 : IntKind.i64.wrap ((k : Int) - ysn) = d2 := by rw [hd2i]; exact IntWalk.i64_in _ (by omega)
    have HDD : Hid (List.replicate d1 1 ++ xs = S ∧ List.replicate d2 1 ++ ys = T ∧ d1 ≤ 8 ∧ d2 ≤ 8 ∧ xsn ≤ 8 ∧ ysn ≤ 8) := ⟨by rw [← HSS2.out, bS, hxl, hd1], by rw [← HTT2.out, bS, hyl, hd2], by omega, by omega, by omega, by omega⟩
    have HMXY := Lib.hid (And.intro hmx1 hmy1)
    clear hsp hrx hry HA hFX hFY hIX hIY hxl hyl hxal hyal hmx hmy hmx1 hmx2 hmy1 hmy2 hnx hny hx8 hy8 hkk hSl hTl hwh HRE HRS HRA hk1 hk8 hd1 hd2 hd1i hd2i y0 y1 y2 y3 H1 HW HX HY HMX HMY HL HN
    have y0 := HS0.out.cell (i := 0) rfl 0 _ rfl
    have y1 := HS0.out.cell (i := 1) rfl 0 _ rfl
    go_upto_region 8 with fail
    go_cut [7] from 71 to 81 (fun (v : Value) (wx : World) => ∃ (g1 : Nat) (so : Option Addr) (sc : Nat), v = .pointer (some ⟨g1, 0, none⟩) ∧ Hid (Sp Non w wx [Pt.row ⟨38, 2, some ⟨b1, 0, none⟩, 1, 1, [.slice xsa xsn xsc, .slice xaa xan xac]⟩, Pt.row ⟨38, 2, some ⟨b1 + 1, 0, none⟩, 1, 1, [.slice ysa ysn ysc, .slice yaa yan yac]⟩, Pt.row ⟨38, 2, some ⟨b1 + 1 + 1, 0, none⟩, 1, 1, [.slice none 0 0, .slice none 0 0]⟩, P1, P2, Pt.row ⟨25, 1, some ⟨g1, 0, none⟩, 1, 1, [.slice so k sc]⟩, Pt.ints 3 so k sc S]))
    case first =>
      have hl2 := (HS0.out.rlt (i := 2) rfl).1
      have y0 := HS0.out.cell (i := 0) rfl 0 _ rfl
      have HNE : Hid (∀ n : Nat, b1 + 1 + 1 < n → (¬ n = b1) ∧ (¬ b1 = n) ∧ (¬ n + 1 = b1) ∧ (¬ b1 = n + 1) ∧ b1 < n ∧ (¬ n = b1) ∧ (¬ b1 = n)) := fun n hn => by omega
      obtain ⟨n1, n2, n3, n4, n5, n6, n7⟩ := HNE.out _ hl2
      have HSH : Hid (∀ (wx : World) (L : List Pt), Sp Non w wx L → L[3]? = some P1 → Ls wx xsa xsn xsc xs) := fun wx L h e => by
        obtain ⟨F, hF, -⟩ := h.get e
        exact (HRX.out wx F h.belowN hF).shp
      have Ha_ := (HS0.out.alloc 3 1 1 #[.int .i64 1] rfl (by decide)).via (adrew1 _)
      try simp only [List.cons_append, List.nil_append, List.set_cons_zero, List.set_cons_succ, List.map_cons, List.map_nil, List.getD_cons_zero, List.getD_cons_succ, World.size_alloc] at Ha_
      have Ha := Lib.hid Ha_
      clear Ha_
      have Hb_ := ((HS0.out.alloc 25 1 1 #[.slice none 0 0] rfl (by decide)).alloc 3 1 1 #[.int .i64 1] rfl (by decide)).via (adrew1 _)
      try simp only [List.cons_append, List.nil_append, List.set_cons_zero, List.set_cons_succ, List.map_cons, List.map_nil, List.getD_cons_zero, List.getD_cons_succ, World.size_alloc] at Hb_
      have Hb := Lib.hid Hb_
      clear Hb_
      have Hc_ := ((HS0.out.alloc 3 1 1 #[.int .i64 1] rfl (by decide)).alloc 25 1 1 #[.slice none 0 0] rfl (by decide)).via (adrew1 _)
      try simp only [List.cons_append, List.nil_append, List.set_cons_zero, List.set_cons_succ, List.map_cons, List.map_nil, List.getD_cons_zero, List.getD_cons_succ, World.size_alloc] at Hc_
      have Hc := Lib.hid Hc_
      clear Hc_
      have CRa := Lib.hid (repeat_one (N := d1) (Ha.out.rlt (i := 5) rfl).1 (Ha.out.cell (i := 5) rfl 0 _ rfl) (by have := HDD.out; omega))
      have CRb := Lib.hid (repeat_one (N := d1) (Hb.out.rlt (i := 6) rfl).1 (Hb.out.cell (i := 6) rfl 0 _ rfl) (by have := HDD.out; omega))
      have CRc := Lib.hid (repeat_one (N := d1) (Hc.out.rlt (i := 5) rfl).1 (Hc.out.cell (i := 5) rfl 0 _ rfl) (by have := HDD.out; omega))
      clear hl2
      go_region_held3 (fun w'' => w''.cell? ⟨b1, 0, none⟩ = some (.slice xsa xsn xsc)) (go_keep)
        (first
        | (go_at_call 130; (with_reducible refine Calls.mono CRa.out ?_); rintro e w5 ⟨ro, rn, rc, rfl, hL5, hO5, hB5⟩; have HR := Lib.hid (Ha.out.intsNew hO5 hB5 hL5.big hL5.rng); obtain ⟨m1, m2, m3, m4, m5, m6, m7⟩ := HNE.out _ (HR.out.rlt (i := 2) rfl).1; have hrn : rn ≤ 1000000 := (by have h9 := hL5.len; rw [List.length_replicate] at h9; have h8 := HDD.out; omega); have hxn8 : xsn ≤ 1000000 := (by have h8 := HDD.out; omega); have hcl1 := HR.out.alloc 25 1 2 #[.slice ro rn rc, .slice xsa xsn xsc] rfl (by decide); have CT1 := Lib.hid (concat_two (hcl1.rlt (i := 7) rfl).1 (hcl1.cell (i := 7) rfl 0 _ rfl) (hcl1.cell (i := 7) rfl 1 _ rfl) (hcl1.ls (i := 6) rfl) (HSH.out _ _ hcl1 rfl) hrn hxn8); have HC1 := Lib.hid hcl1; clear hcl1; have hcl2 := (HR.out.alloc 25 1 1 #[.slice none 0 0] rfl (by decide)).alloc 25 1 2 #[.slice ro rn rc, .slice xsa xsn xsc] rfl (by decide); simp only [World.size_alloc] at hcl2; have CT2 := Lib.hid (concat_two (hcl2.rlt (i := 8) rfl).1 (hcl2.cell (i := 8) rfl 0 _ rfl) (hcl2.cell (i := 8) rfl 1 _ rfl) (hcl2.ls (i := 6) rfl) (HSH.out _ _ hcl2 rfl) hrn hxn8); have HC2 := Lib.hid hcl2; clear hcl2; have hcl3 := (HR.out.alloc 25 1 2 #[.slice ro rn rc, .slice xsa xsn xsc] rfl (by decide)).alloc 25 1 1 #[.slice none 0 0] rfl (by decide); simp only [World.size_alloc] at hcl3; have CT3 := Lib.hid (concat_two (hcl3.rlt (i := 7) rfl).1 (hcl3.cell (i := 7) rfl 0 _ rfl) (hcl3.cell (i := 7) rfl 1 _ rfl) (hcl3.ls (i := 6) rfl) (HSH.out _ _ hcl3 rfl) hrn hxn8); have HC3 := Lib.hid hcl3; clear hcl3; clear hL5 hO5 hB5 y0; have y0 := HR.out.cell (i := 0) rfl 0 _ rfl)
        | (go_at_call 130; (with_reducible refine Calls.mono CRb.out ?_); rintro e w5 ⟨ro, rn, rc, rfl, hL5, hO5, hB5⟩; have HR := Lib.hid (Hb.out.intsNew hO5 hB5 hL5.big hL5.rng); obtain ⟨m1, m2, m3, m4, m5, m6, m7⟩ := HNE.out _ (HR.out.rlt (i := 2) rfl).1; have hrn : rn ≤ 1000000 := (by have h9 := hL5.len; rw [List.length_replicate] at h9; have h8 := HDD.out; omega); have hxn8 : xsn ≤ 1000000 := (by have h8 := HDD.out; omega); have hcl1 := HR.out.alloc 25 1 2 #[.slice ro rn rc, .slice xsa xsn xsc] rfl (by decide); have CT1 := Lib.hid (concat_two (hcl1.rlt (i := 8) rfl).1 (hcl1.cell (i := 8) rfl 0 _ rfl) (hcl1.cell (i := 8) rfl 1 _ rfl) (hcl1.ls (i := 7) rfl) (HSH.out _ _ hcl1 rfl) hrn hxn8); have HC1 := Lib.hid hcl1; clear hcl1; clear hL5 hO5 hB5 y0; have y0 := HR.out.cell (i := 0) rfl 0 _ rfl)
        | (go_at_call 130; (with_reducible refine Calls.mono CRc.out ?_); rintro e w5 ⟨ro, rn, rc, rfl, hL5, hO5, hB5⟩; have HR := Lib.hid (Hc.out.intsNew hO5 hB5 hL5.big hL5.rng); obtain ⟨m1, m2, m3, m4, m5, m6, m7⟩ := HNE.out _ (HR.out.rlt (i := 2) rfl).1; have hrn : rn ≤ 1000000 := (by have h9 := hL5.len; rw [List.length_replicate] at h9; have h8 := HDD.out; omega); have hxn8 : xsn ≤ 1000000 := (by have h8 := HDD.out; omega); have hcl1 := HR.out.alloc 25 1 2 #[.slice ro rn rc, .slice xsa xsn xsc] rfl (by decide); have CT1 := Lib.hid (concat_two (hcl1.rlt (i := 8) rfl).1 (hcl1.cell (i := 8) rfl 0 _ rfl) (hcl1.cell (i := 8) rfl 1 _ rfl) (hcl1.ls (i := 7) rfl) (HSH.out _ _ hcl1 rfl) hrn hxn8); have HC1 := Lib.hid hcl1; clear hcl1; clear hL5 hO5 hB5 y0; have y0 := HR.out.cell (i := 0) rfl 0 _ rfl)
        | (go_at_call 103; (with_reducible refine Calls.mono CT1.out ?_); rintro e w7 ⟨lo, ln, lc, rfl, hL7, hO7, hB7⟩; have H7 := Lib.hid (HC1.out.intsNew hO7 hB7 hL7.big hL7.rng); clear y0; have y0 := H7.out.cell (i := 0) rfl 0 _ rfl; obtain ⟨k1, k2, k3, k4, k5, k6, k7⟩ := HNE.out _ (H7.out.rlt (i := 2) rfl).1; (first | (have x0 := H7.out.cell (i := 5) (xs := [.slice none 0 0]) rfl 0 _ rfl; have f0 := H7.out.frozen (i := 5) (xs := [.slice none 0 0]) rfl 0) | (have x0 := H7.out.cell (i := 6) (xs := [.slice none 0 0]) rfl 0 _ rfl; have f0 := H7.out.frozen (i := 6) (xs := [.slice none 0 0]) rfl 0) | skip))
        | (go_at_call 103; (with_reducible refine Calls.mono CT2.out ?_); rintro e w7 ⟨lo, ln, lc, rfl, hL7, hO7, hB7⟩; have H7 := Lib.hid (HC2.out.intsNew hO7 hB7 hL7.big hL7.rng); clear y0; have y0 := H7.out.cell (i := 0) rfl 0 _ rfl; obtain ⟨k1, k2, k3, k4, k5, k6, k7⟩ := HNE.out _ (H7.out.rlt (i := 2) rfl).1; (first | (have x0 := H7.out.cell (i := 7) (xs := [.slice none 0 0]) rfl 0 _ rfl; have f0 := H7.out.frozen (i := 7) (xs := [.slice none 0 0]) rfl 0)))
        | (go_at_call 103; (with_reducible refine Calls.mono CT3.out ?_); rintro e w7 ⟨lo, ln, lc, rfl, hL7, hO7, hB7⟩; have H7 := Lib.hid (HC3.out.intsNew hO7 hB7 hL7.big hL7.rng); clear y0; have y0 := H7.out.cell (i := 0) rfl 0 _ rfl; obtain ⟨k1, k2, k3, k4, k5, k6, k7⟩ := HNE.out _ (H7.out.rlt (i := 2) rfl).1; (first | (have x0 := H7.out.cell (i := 8) (xs := [.slice none 0 0]) rfl 0 _ rfl; have f0 := H7.out.frozen (i := 8) (xs := [.slice none 0 0]) rfl 0))))
      all_goals
        have hln : ln = k := by have h9 := hL7.len; rw [HDD.out.1] at h9; have h8 := HKL.out; omega
        subst hln
        have h7 := H7.out
        rw [HDD.out.1] at h7
        clear hL7 hO7 hB7 H7
        go_wp2_with fail
        go_meet
        first
          | exact ⟨w7.heap.size, lo, lc, rfl, (h7.alloc 25 1 1 #[.slice lo ln lc] rfl (by decide)).pick [0, 1, 2, 3, 4, 9, 8] (by decide)⟩
          | exact ⟨U.heap.size, lo, lc, rfl, (h7.put (i := 5) rfl 0 (.slice lo ln lc)).pick [0, 1, 2, 3, 4, 5, 9] (by decide)⟩
          | exact ⟨U.heap.size + 1, lo, lc, rfl, (h7.put (i := 6) rfl 0 (.slice lo ln lc)).pick [0, 1, 2, 3, 4, 6, 9] (by decide)⟩
          | exact ⟨w5.heap.size, lo, lc, rfl, (h7.put (i := 7) rfl 0 (.slice lo ln lc)).pick [0, 1, 2, 3, 4, 7, 9] (by decide)⟩
          | exact ⟨w5.heap.size + 1, lo, lc, rfl, (h7.put (i := 8) rfl 0 (.slice lo ln lc)).pick [0, 1, 2, 3, 4, 8, 9] (by decide)⟩
    case rest =>
    obtain ⟨g1, so, sc, rfl, HS1⟩ := hcut
    obtain ⟨U2, hU⟩ : ∃ z : World, z = wc := ⟨_, rfl⟩
    subst hU
    clear y0 y1
    go_upto_region 9 with fail
    go_cut [8] from 82 to 92 (fun (v : Value) (wx : World) => ∃ (g2 : Nat) (tp : Option Addr) (tc : Nat), v = .pointer (some ⟨g2, 0, none⟩) ∧ Hid (Sp Non w wx [Pt.row ⟨38, 2, some ⟨b1, 0, none⟩, 1, 1, [.slice xsa xsn xsc, .slice xaa xan xac]⟩, Pt.row ⟨38, 2, some ⟨b1 + 1, 0, none⟩, 1, 1, [.slice ysa ysn ysc, .slice yaa yan yac]⟩, Pt.row ⟨38, 2, some ⟨b1 + 1 + 1, 0, none⟩, 1, 1, [.slice none 0 0, .slice none 0 0]⟩, P1, P2, Pt.row ⟨25, 1, some ⟨g1, 0, none⟩, 1, 1, [.slice so k sc]⟩, Pt.ints 3 so k sc S, Pt.row ⟨25, 1, some ⟨g2, 0, none⟩, 1, 1, [.slice tp k tc]⟩, Pt.ints 3 tp k tc T]))
    case first =>
      have hl2 := (HS1.out.rlt (i := 2) rfl).1
      have y0 := HS1.out.cell (i := 1) rfl 0 _ rfl
      have HNE : Hid (∀ n : Nat, b1 + 1 + 1 < n → (¬ n = b1 + 1) ∧ (¬ b1 + 1 = n) ∧ (¬ n + 1 = b1 + 1) ∧ (¬ b1 + 1 = n + 1) ∧ b1 + 1 < n ∧ (¬ n = b1) ∧ (¬ b1 = n)) := fun n hn => by omega
      obtain ⟨n1, n2, n3, n4, n5, n6, n7⟩ := HNE.out _ hl2
      have HSH : Hid (∀ (wx : World) (L : List Pt), Sp Non w wx L → L[4]? = some P2 → Ls wx ysa ysn ysc ys) := fun wx L h e => by
        obtain ⟨F, hF, -⟩ := h.get e
        exact (HRY.out wx F h.belowN hF).shp
      have Ha_ := (HS1.out.alloc 3 1 1 #[.int .i64 1] rfl (by decide)).via (adrew1 _)
      try simp only [List.cons_append, List.nil_append, List.set_cons_zero, List.set_cons_succ, List.map_cons, List.map_nil, List.getD_cons_zero, List.getD_cons_succ, World.size_alloc] at Ha_
      have Ha := Lib.hid Ha_
      clear Ha_
      have Hb_ := ((HS1.out.alloc 25 1 1 #[.slice none 0 0] rfl (by decide)).alloc 3 1 1 #[.int .i64 1] rfl (by decide)).via (adrew1 _)
      try simp only [List.cons_append, List.nil_append, List.set_cons_zero, List.set_cons_succ, List.map_cons, List.map_nil, List.getD_cons_zero, List.getD_cons_succ, World.size_alloc] at Hb_
      have Hb := Lib.hid Hb_
      clear Hb_
      have Hc_ := ((HS1.out.alloc 3 1 1 #[.int .i64 1] rfl (by decide)).alloc 25 1 1 #[.slice none 0 0] rfl (by decide)).via (adrew1 _)
      try simp only [List.cons_append, List.nil_append, List.set_cons_zero, List.set_cons_succ, List.map_cons, List.map_nil, List.getD_cons_zero, List.getD_cons_succ, World.size_alloc] at Hc_
      have Hc := Lib.hid Hc_
      clear Hc_
      have CRa := Lib.hid (repeat_one (N := d2) (Ha.out.rlt (i := 7) rfl).1 (Ha.out.cell (i := 7) rfl 0 _ rfl) (by have := HDD.out; omega))
      have CRb := Lib.hid (repeat_one (N := d2) (Hb.out.rlt (i := 8) rfl).1 (Hb.out.cell (i := 8) rfl 0 _ rfl) (by have := HDD.out; omega))
      have CRc := Lib.hid (repeat_one (N := d2) (Hc.out.rlt (i := 7) rfl).1 (Hc.out.cell (i := 7) rfl 0 _ rfl) (by have := HDD.out; omega))
      clear hl2
      go_region_held3 (fun w'' => w''.cell? ⟨b1 + 1, 0, none⟩ = some (.slice ysa ysn ysc)) (go_keep)
        (first
        | (go_at_call 130; (with_reducible refine Calls.mono CRa.out ?_); rintro e w5 ⟨ro, rn, rc, rfl, hL5, hO5, hB5⟩; have HR := Lib.hid (Ha.out.intsNew hO5 hB5 hL5.big hL5.rng); obtain ⟨m1, m2, m3, m4, m5, m6, m7⟩ := HNE.out _ (HR.out.rlt (i := 2) rfl).1; have hrn : rn ≤ 1000000 := (by have h9 := hL5.len; rw [List.length_replicate] at h9; have h8 := HDD.out; omega); have hxn8 : ysn ≤ 1000000 := (by have h8 := HDD.out; omega); have hcl1 := HR.out.alloc 25 1 2 #[.slice ro rn rc, .slice ysa ysn ysc] rfl (by decide); have CT1 := Lib.hid (concat_two (hcl1.rlt (i := 9) rfl).1 (hcl1.cell (i := 9) rfl 0 _ rfl) (hcl1.cell (i := 9) rfl 1 _ rfl) (hcl1.ls (i := 8) rfl) (HSH.out _ _ hcl1 rfl) hrn hxn8); have HC1 := Lib.hid hcl1; clear hcl1; have hcl2 := (HR.out.alloc 25 1 1 #[.slice none 0 0] rfl (by decide)).alloc 25 1 2 #[.slice ro rn rc, .slice ysa ysn ysc] rfl (by decide); simp only [World.size_alloc] at hcl2; have CT2 := Lib.hid (concat_two (hcl2.rlt (i := 10) rfl).1 (hcl2.cell (i := 10) rfl 0 _ rfl) (hcl2.cell (i := 10) rfl 1 _ rfl) (hcl2.ls (i := 8) rfl) (HSH.out _ _ hcl2 rfl) hrn hxn8); have HC2 := Lib.hid hcl2; clear hcl2; have hcl3 := (HR.out.alloc 25 1 2 #[.slice ro rn rc, .slice ysa ysn ysc] rfl (by decide)).alloc 25 1 1 #[.slice none 0 0] rfl (by decide); simp only [World.size_alloc] at hcl3; have CT3 := Lib.hid (concat_two (hcl3.rlt (i := 9) rfl).1 (hcl3.cell (i := 9) rfl 0 _ rfl) (hcl3.cell (i := 9) rfl 1 _ rfl) (hcl3.ls (i := 8) rfl) (HSH.out _ _ hcl3 rfl) hrn hxn8); have HC3 := Lib.hid hcl3; clear hcl3; clear hL5 hO5 hB5 y0; have y0 := HR.out.cell (i := 1) rfl 0 _ rfl)
        | (go_at_call 130; (with_reducible refine Calls.mono CRb.out ?_); rintro e w5 ⟨ro, rn, rc, rfl, hL5, hO5, hB5⟩; have HR := Lib.hid (Hb.out.intsNew hO5 hB5 hL5.big hL5.rng); obtain ⟨m1, m2, m3, m4, m5, m6, m7⟩ := HNE.out _ (HR.out.rlt (i := 2) rfl).1; have hrn : rn ≤ 1000000 := (by have h9 := hL5.len; rw [List.length_replicate] at h9; have h8 := HDD.out; omega); have hxn8 : ysn ≤ 1000000 := (by have h8 := HDD.out; omega); have hcl1 := HR.out.alloc 25 1 2 #[.slice ro rn rc, .slice ysa ysn ysc] rfl (by decide); have CT1 := Lib.hid (concat_two (hcl1.rlt (i := 10) rfl).1 (hcl1.cell (i := 10) rfl 0 _ rfl) (hcl1.cell (i := 10) rfl 1 _ rfl) (hcl1.ls (i := 9) rfl) (HSH.out _ _ hcl1 rfl) hrn hxn8); have HC1 := Lib.hid hcl1; clear hcl1; clear hL5 hO5 hB5 y0; have y0 := HR.out.cell (i := 1) rfl 0 _ rfl)
        | (go_at_call 130; (with_reducible refine Calls.mono CRc.out ?_); rintro e w5 ⟨ro, rn, rc, rfl, hL5, hO5, hB5⟩; have HR := Lib.hid (Hc.out.intsNew hO5 hB5 hL5.big hL5.rng); obtain ⟨m1, m2, m3, m4, m5, m6, m7⟩ := HNE.out _ (HR.out.rlt (i := 2) rfl).1; have hrn : rn ≤ 1000000 := (by have h9 := hL5.len; rw [List.length_replicate] at h9; have h8 := HDD.out; omega); have hxn8 : ysn ≤ 1000000 := (by have h8 := HDD.out; omega); have hcl1 := HR.out.alloc 25 1 2 #[.slice ro rn rc, .slice ysa ysn ysc] rfl (by decide); have CT1 := Lib.hid (concat_two (hcl1.rlt (i := 10) rfl).1 (hcl1.cell (i := 10) rfl 0 _ rfl) (hcl1.cell (i := 10) rfl 1 _ rfl) (hcl1.ls (i := 9) rfl) (HSH.out _ _ hcl1 rfl) hrn hxn8); have HC1 := Lib.hid hcl1; clear hcl1; clear hL5 hO5 hB5 y0; have y0 := HR.out.cell (i := 1) rfl 0 _ rfl)
        | (go_at_call 103; (with_reducible refine Calls.mono CT1.out ?_); rintro e w7 ⟨lo, ln, lc, rfl, hL7, hO7, hB7⟩; have H7 := Lib.hid (HC1.out.intsNew hO7 hB7 hL7.big hL7.rng); clear y0; have y0 := H7.out.cell (i := 1) rfl 0 _ rfl; obtain ⟨k1, k2, k3, k4, k5, k6, k7⟩ := HNE.out _ (H7.out.rlt (i := 2) rfl).1; (first | (have x0 := H7.out.cell (i := 7) (xs := [.slice none 0 0]) rfl 0 _ rfl; have f0 := H7.out.frozen (i := 7) (xs := [.slice none 0 0]) rfl 0) | (have x0 := H7.out.cell (i := 8) (xs := [.slice none 0 0]) rfl 0 _ rfl; have f0 := H7.out.frozen (i := 8) (xs := [.slice none 0 0]) rfl 0) | skip))
        | (go_at_call 103; (with_reducible refine Calls.mono CT2.out ?_); rintro e w7 ⟨lo, ln, lc, rfl, hL7, hO7, hB7⟩; have H7 := Lib.hid (HC2.out.intsNew hO7 hB7 hL7.big hL7.rng); clear y0; have y0 := H7.out.cell (i := 1) rfl 0 _ rfl; obtain ⟨k1, k2, k3, k4, k5, k6, k7⟩ := HNE.out _ (H7.out.rlt (i := 2) rfl).1; (first | (have x0 := H7.out.cell (i := 9) (xs := [.slice none 0 0]) rfl 0 _ rfl; have f0 := H7.out.frozen (i := 9) (xs := [.slice none 0 0]) rfl 0)))
        | (go_at_call 103; (with_reducible refine Calls.mono CT3.out ?_); rintro e w7 ⟨lo, ln, lc, rfl, hL7, hO7, hB7⟩; have H7 := Lib.hid (HC3.out.intsNew hO7 hB7 hL7.big hL7.rng); clear y0; have y0 := H7.out.cell (i := 1) rfl 0 _ rfl; obtain ⟨k1, k2, k3, k4, k5, k6, k7⟩ := HNE.out _ (H7.out.rlt (i := 2) rfl).1; (first | (have x0 := H7.out.cell (i := 10) (xs := [.slice none 0 0]) rfl 0 _ rfl; have f0 := H7.out.frozen (i := 10) (xs := [.slice none 0 0]) rfl 0))))
      all_goals
        have hln : ln = k := by have h9 := hL7.len; rw [HDD.out.2.1] at h9; have h8 := HKL.out; omega
        subst hln
        have h7 := H7.out
        rw [HDD.out.2.1] at h7
        clear hL7 hO7 hB7 H7
        go_wp2_with fail
        go_meet
        first
          | exact ⟨w7.heap.size, lo, lc, rfl, (h7.alloc 25 1 1 #[.slice lo ln lc] rfl (by decide)).pick [0, 1, 2, 3, 4, 5, 6, 11, 10] (by decide)⟩
          | exact ⟨U2.heap.size, lo, lc, rfl, (h7.put (i := 7) rfl 0 (.slice lo ln lc)).pick [0, 1, 2, 3, 4, 5, 6, 7, 11] (by decide)⟩
          | exact ⟨U2.heap.size + 1, lo, lc, rfl, (h7.put (i := 8) rfl 0 (.slice lo ln lc)).pick [0, 1, 2, 3, 4, 5, 6, 8, 11] (by decide)⟩
          | exact ⟨w5.heap.size, lo, lc, rfl, (h7.put (i := 9) rfl 0 (.slice lo ln lc)).pick [0, 1, 2, 3, 4, 5, 6, 9, 11] (by decide)⟩
          | exact ⟨w5.heap.size + 1, lo, lc, rfl, (h7.put (i := 10) rfl 0 (.slice lo ln lc)).pick [0, 1, 2, 3, 4, 5, 6, 10, 11] (by decide)⟩
    case rest =>
    obtain ⟨g2, tp, tc, rfl, HS2⟩ := hcut
    obtain ⟨U3, hU⟩ : ∃ z : World, z = wc := ⟨_, rfl⟩
    subst hU
    have y0 := HS2.out.cell (i := 5) rfl 0 _ rfl
    have C1 := Lib.hid (clone_any (HS2.out.ls (i := 6) rfl))
    go_wp2_with fail
    refine C1.out.mono ?_; rintro e w4 ⟨wo, wn, rfl, hL4, hO4, hB4⟩
    have H4_ := (HS2.out.intsNew hO4 hB4 hL4.big hL4.rng).toRow (i := 9) rfl
    try simp only [List.cons_append, List.nil_append, List.set_cons_zero, List.set_cons_succ, List.map_cons, List.map_nil, List.getD_cons_zero, List.getD_cons_succ, World.size_alloc] at H4_
    have H4 := Lib.hid H4_
    clear H4_
    have hSr := hL4.rng
    have HSR := Lib.hid hSr
    clear hL4 hO4 hB4 C1 y0 hSr
    have H5 : Hid (Sp Non w (w4) [Pt.row ⟨38, 2, some ⟨b1, 0, none⟩, 1, 1, [.slice xsa xsn xsc, .slice xaa xan xac]⟩, Pt.row ⟨38, 2, some ⟨b1 + 1, 0, none⟩, 1, 1, [.slice ysa ysn ysc, .slice yaa yan yac]⟩, Pt.row ⟨38, 2, some ⟨b1 + 1 + 1, 0, none⟩, 1, 1, [.slice none 0 0, .slice none 0 0]⟩, P1, P2, Pt.row ⟨25, 1, some ⟨g1, 0, none⟩, 1, 1, [.slice so k sc]⟩, Pt.ints 3 so k sc S, Pt.row ⟨25, 1, some ⟨g2, 0, none⟩, 1, 1, [.slice tp k tc]⟩, Pt.ints 3 tp k tc T, Pt.row ⟨3, 1, wo, k, wn, (updG (bwf S T) S 0).map (Value.int .i64)⟩]) := by
      show Sp _ _ _ _
      rw [updG_zero]; exact H4.out
    obtain ⟨c1, c2, c3, c4, c5⟩ := H5.out.rcap (i := 9) rfl
    obtain ⟨gw, rfl⟩ := c5 (by have := HDK.out; omega)
    obtain ⟨bs1, os1, es1, hcs1⟩ := (H5.out.ls (i := 6) rfl).at (by have := HDK.out; omega)
    have d1 := hcs1 0 (by have := HDK.out; omega)
    rw [Nat.add_zero] at d1
    subst es1
    obtain ⟨bt1, ot1, et1, hct1⟩ := (H5.out.ls (i := 8) rfl).at (by have := HDK.out; omega)
    have d2 := hct1 0 (by have := HDK.out; omega)
    rw [Nat.add_zero] at d2
    subst et1
    have y1 := H5.out.cell (i := 5) rfl 0 _ rfl
    have y2 := H5.out.cell (i := 7) rfl 0 _ rfl
    have t0 := H5.out.cell (i := 9) rfl 0 (.int .i64 ((updG (bwf S T) S 0).getD 0 0)) (getD_map_int _ _ (by rw [updG_len]; have := HKL.out; have := HDK.out; omega))
    have t1 := H5.out.frozen (i := 9) rfl 0
    have HP5 : Hid (Sp Non w (w4.setCell ⟨gw, 0, none⟩ (.int .i64 (S.getD 0 0 + T.getD 0 0))).drew [Pt.row ⟨38, 2, some ⟨b1, 0, none⟩, 1, 1, [.slice xsa xsn xsc, .slice xaa xan xac]⟩, Pt.row ⟨38, 2, some ⟨b1 + 1, 0, none⟩, 1, 1, [.slice ysa ysn ysc, .slice yaa yan yac]⟩, Pt.row ⟨38, 2, some ⟨b1 + 1 + 1, 0, none⟩, 1, 1, [.slice none 0 0, .slice none 0 0]⟩, P1, P2, Pt.row ⟨25, 1, some ⟨g1, 0, none⟩, 1, 1, [.slice (some ⟨bs1, os1, none⟩) k sc]⟩, Pt.ints 3 (some ⟨bs1, os1, none⟩) k sc S, Pt.row ⟨25, 1, some ⟨g2, 0, none⟩, 1, 1, [.slice (some ⟨bt1, ot1, none⟩) k tc]⟩, Pt.ints 3 (some ⟨bt1, ot1, none⟩) k tc T, Pt.row ⟨3, 1, some ⟨gw, 0, none⟩, k, wn, (updG (bwf S T) S 1).map (Value.int .i64)⟩]) := by
      have h2 := (H5.out.put (i := 9) rfl 0 (.int .i64 (S.getD 0 0 + T.getD 0 0))).via (adrew1 _)
      rw [← List.map_set] at h2
      have h3 := updG_step (f := bwf S T) (t := S) (i := 0) (by have := HKL.out; have := HDK.out; omega)
      rw [show bwf S T 0 = S.getD 0 0 + T.getD 0 0 from rfl] at h3
      rw [h3] at h2
      exact h2
    have hs0 := HSB.out 0
    have ht0 := HTB.out 0
    obtain ⟨v1, HV1⟩ : ∃ z, Hid (S.getD 0 0 = z) := ⟨_, rfl⟩
    obtain ⟨v2, HV2⟩ : ∃ z, Hid (T.getD 0 0 = z) := ⟨_, rfl⟩
    rw [HV1.out] at d1 hs0 HP5
    rw [HV2.out] at d2 ht0 HP5
    have z3 : IntKind.i64.wrap (v1 + v2) = v1 + v2 := IntWalk.i64_in _ (by omega)
    have hdk := HDK.out
    have hkp : (0 : Int) < k := by omega
    have hwp : (0 : Int) < wn := by omega
    have hkp2 : 0 < k := by omega
    have hwp2 : 0 < wn := by omega
    clear c1 c2 c3 c4 c5 hcs1 hct1 H4 H5
    go_upto_region 11 with fail
    refine region_tail 9 (by kernel_rfl) (by kernel_rfl) ?_
    simp only [List.take_succ_cons, List.take_zero, List.drop_succ_cons, List.drop_zero]
    iterate 9 still_step
    refine wpStill_nil ?_
    clear hs0 ht0
    go_wp2_with fail
    clear y1 y2 t0 t1 d1 d2
    go_loopw [10] (fun v10 wr => ∃ j : Nat, 1 ≤ j ∧ j ≤ k ∧ v10 = .int .i64 j ∧ Hid (Sp Non w wr [Pt.row ⟨38, 2, some ⟨b1, 0, none⟩, 1, 1, [.slice xsa xsn xsc, .slice xaa xan xac]⟩, Pt.row ⟨38, 2, some ⟨b1 + 1, 0, none⟩, 1, 1, [.slice ysa ysn ysc, .slice yaa yan yac]⟩, Pt.row ⟨38, 2, some ⟨b1 + 1 + 1, 0, none⟩, 1, 1, [.slice none 0 0, .slice none 0 0]⟩, P1, P2, Pt.row ⟨25, 1, some ⟨g1, 0, none⟩, 1, 1, [.slice (some ⟨bs1, os1, none⟩) k sc]⟩, Pt.ints 3 (some ⟨bs1, os1, none⟩) k sc S, Pt.row ⟨25, 1, some ⟨g2, 0, none⟩, 1, 1, [.slice (some ⟨bt1, ot1, none⟩) k tc]⟩, Pt.ints 3 (some ⟨bt1, ot1, none⟩) k tc T, Pt.row ⟨3, 1, some ⟨gw, 0, none⟩, k, wn, (updG (bwf S T) S j).map (Value.int .i64)⟩])) (fun v10 _ => k - (RowKit.intOf v10).toNat)
    case atStart => exact ⟨1, Nat.le_refl _, hdk.1, rfl, HP5⟩
    case round =>
      clear HP5
      obtain ⟨j, hj1, hj, rfl, HO⟩ := hrel
      by_cases hlt : j < k
      · have hlt' : (j : Int) < k := by omega
        have hjw : (j : Int) < wn := by have := (HO.out.rcap (i := 9) rfl).1; omega
        obtain ⟨b2, o2, e2, hc2⟩ := (HO.out.ls (i := 6) rfl).at (by omega)
        have d1 := hc2 j hlt
        cases e2
        obtain ⟨b3, o3, e3, hc3⟩ := (HO.out.ls (i := 8) rfl).at (by omega)
        have d2 := hc3 j hlt
        cases e3
        have y1 := HO.out.cell (i := 5) rfl 0 _ rfl
        have y2 := HO.out.cell (i := 7) rfl 0 _ rfl
        have t0 := HO.out.cell (i := 9) rfl j (.int .i64 ((updG (bwf S T) S j).getD j 0)) (getD_map_int _ _ (by rw [updG_len]; have := HKL.out; omega))
        have t1 := HO.out.frozen (i := 9) rfl j
        have HFF : Hid (bwf S T j = max (S.getD j 0) (T.getD j 0)) := if_neg (by omega)
        have HP : Hid (Sp Non w (wr.setCell ⟨gw, j, none⟩ (.int .i64 (bwf S T j))).drew [Pt.row ⟨38, 2, some ⟨b1, 0, none⟩, 1, 1, [.slice xsa xsn xsc, .slice xaa xan xac]⟩, Pt.row ⟨38, 2, some ⟨b1 + 1, 0, none⟩, 1, 1, [.slice ysa ysn ysc, .slice yaa yan yac]⟩, Pt.row ⟨38, 2, some ⟨b1 + 1 + 1, 0, none⟩, 1, 1, [.slice none 0 0, .slice none 0 0]⟩, P1, P2, Pt.row ⟨25, 1, some ⟨g1, 0, none⟩, 1, 1, [.slice (some ⟨bs1, os1, none⟩) k sc]⟩, Pt.ints 3 (some ⟨bs1, os1, none⟩) k sc S, Pt.row ⟨25, 1, some ⟨g2, 0, none⟩, 1, 1, [.slice (some ⟨bt1, ot1, none⟩) k tc]⟩, Pt.ints 3 (some ⟨bt1, ot1, none⟩) k tc T, Pt.row ⟨3, 1, some ⟨gw, 0, none⟩, k, wn, (updG (bwf S T) S (j + 1)).map (Value.int .i64)⟩]) := by
          have h2 := (HO.out.put (i := 9) rfl j (.int .i64 (bwf S T j))).via (adrew1 _)
          rw [← List.map_set] at h2
          have h3 := updG_step (f := bwf S T) (t := S) (i := j) (by have := HKL.out; omega)
          rw [h3] at h2
          exact h2
        rw [HFF.out] at HP
        obtain ⟨v3, HV3⟩ : ∃ z, Hid (S.getD j 0 = z) := ⟨_, rfl⟩
        obtain ⟨v4, HV4⟩ : ∃ z, Hid (T.getD j 0 = z) := ⟨_, rfl⟩
        rw [HV3.out] at d1 HP
        rw [HV4.out] at d2 HP
        obtain ⟨v5, HV5⟩ : ∃ z, Hid ((updG (bwf S T) S j).getD j 0 = z) := ⟨_, rfl⟩
        rw [HV5.out] at t0
        clear hc2 hc3 HFF HO
        go_upto_region 15 with fail
        refine region_tail 12 (by kernel_rfl) (by kernel_rfl) ?_
        simp only [List.take_succ_cons, List.take_zero, List.drop_succ_cons, List.drop_zero]
        iterate 12 still_step
        refine wpStill_nil ?_
        go_wp2_with fail
        go_roundw
        case rel => exact ⟨j + 1, by omega, by omega, by go_num, HP⟩
        case measure => simp [RowKit.intOf]; omega
      · obtain rfl : j = k := by omega
        have hge : ¬ ((j : Int) < j) := by omega
        have hBWe : updG (bwf S T) S j = BW := by rw [← HBW.out, bW, HKL.out.1]
        have hru := updG_rng (f := bwf S T) HSR.out j (fun i _ _ => by
          have h1 := HSB.out i
          have h2 := HTB.out i
          have h3 := HSB.out 0
          have h4 := HTB.out 0
          unfold bwf
          split <;> omega)
        have h60 := HO.out
        rw [hBWe] at h60 hru
        have H6_ := h60.toInts (i := 9) (zs := BW) rfl (by have := hdk.2; omega) hru
        try simp only [List.cons_append, List.nil_append, List.set_cons_zero, List.set_cons_succ, List.map_cons, List.map_nil, List.getD_cons_zero, List.getD_cons_succ, World.size_alloc] at H6_
        have H6 := Lib.hid H6_
        clear H6_
        have hBWl : BW.length = j := by rw [← hBWe, updG_len, HKL.out.1]
        have HBWL := Lib.hid hBWl
        have CM := Lib.hid (may_any (H6.out.ls (i := 9) rfl))
        clear HO h60 hru hBWe hBWl
        by_cases hm : mayE BW = 0
        · have r1 : RE = 0 := by rw [HE.out.1, mdE, if_pos hm]
          have r2 : RS = BW := by rw [HE.out.2.1, mdS, if_pos hm]
          have r3 : RA = bAs S T xa ya (pr BW).toNat := by rw [HE.out.2.2, if_pos hm]
          rw [hm] at CM
          obtain ⟨N, hN⟩ : ∃ N : Nat, pr BW = N := ⟨(pr BW).toNat, by have := pr_nonneg hm; omega⟩
          rw [hN, Int.toNat_natCast] at r3
          have hNb : N ≤ 4096 := by have := pr_nonneg hm; omega
          have HSZ : Hid (szE BW = N) := by show _ = _; unfold szE; rw [if_pos hm, hN]
          have HM := Lib.hid (And.intro hm hN)
          subst r1
          have HR := Lib.hid (And.intro r2 r3)
          clear hm hN r2 r3 HE
          go_wp2_with fail
          refine CM.out.mono ?_; rintro e w' ⟨rfl, hw'⟩
          have hw'' := hw'.symm
          subst hw''
          clear hw' CM
          have H7_ := (H6.out.alloc 38 2 1 #[.slice (some ⟨gw, 0, none⟩) j wn, .slice none 0 0] rfl (by decide)).intsNew (E := 2) (zs := []) (World.ownsRow_nil _ _ _ _) (Below.refl _ _) (by omega) (fun i => by simp [List.getD])
          try simp only [List.cons_append, List.nil_append, List.set_cons_zero, List.set_cons_succ, List.map_cons, List.map_nil, List.getD_cons_zero, List.getD_cons_succ, World.size_alloc] at H7_
          have H7 := Lib.hid H7_
          clear H7_
          obtain ⟨b8, HB8⟩ : ∃ z, Hid (wr.heap.size = z) := ⟨_, rfl⟩
          rw [HB8.out] at H7
          have CA := Lib.hid (all_sp (H7.out.ls (i := 9) rfl))
          clear H6
          go_wp2_with fail
          refine CA.out.mono ?_; rintro e w9 ⟨bn', bs, qo, qn, qc, rfl, hq⟩
          have h9 := ((H7.out.add hq).pick [12, 13, 14, 0, 1, 2, 3, 4, 5, 6, 7, 8, 9, 10, 11] (by decide)).pair (i := 13) (j := 14) rfl (by decide) rfl
          have h10 := (h9.sub (i := 13) rfl (PB b8 (some ⟨gw, 0, none⟩) j wn []) (fun F hF => ⟨(none, 0), hF⟩)).pick [0, 1, 2, 3, 4, 5, 6, 7, 8, 9, 10, 11, 12, 13] (by decide)
          have HI0 : Hid (Sp Non w w9 (bhL b1 g1 g2 b8 bn' bs qo qn qc (some ⟨bs1, os1, none⟩) sc (some ⟨bt1, ot1, none⟩) tc (some ⟨gw, 0, none⟩) wn j [.slice xsa xsn xsc, .slice xaa xan xac] [.slice ysa ysn ysc, .slice yaa yan yac] P1 P2 S T BW xa ya 0)) := h10
          have HW9 : Hid (w.heap.size ≤ w9.heap.size) := HI0.out.out.size
          clear h9 h10 hq CA H7
          rw [HB8.out]
          simp only [seqV]
          go_wp2_with fail
          refine (wpIn_wide (n := 6)).1 ?_
          refine wpIn_range_seq2 (n := 6) (by omega) (gf := 159) (lb := #[.pointer (some ⟨bn', 0, none⟩), .pointer (some ⟨bs, 0, none⟩)]) rfl (enters_of Tryz.func159 (by kernel_rfl) rfl) rndV (fun _ => rfl) (RndOwn Non w (bhL b1 g1 g2 b8 bn' bs qo qn qc (some ⟨bs1, os1, none⟩) sc (some ⟨bt1, ot1, none⟩) tc (some ⟨gw, 0, none⟩) wn j [.slice xsa xsn xsc, .slice xaa xan xac] [.slice ysa ysn ysc, .slice yaa yan yac] P1 P2 S T BW xa ya) BW) N (fun q V => Sp Non w V (bhL b1 g1 g2 b8 bn' bs qo qn qc (some ⟨bs1, os1, none⟩) sc (some ⟨bt1, ot1, none⟩) tc (some ⟨gw, 0, none⟩) wn j [.slice xsa xsn xsc, .slice xaa xan xac] [.slice ysa ysn ysc, .slice yaa yan yac] P1 P2 S T BW xa ya q))
            (fun q V => Sp Non w V (bhL b1 g1 g2 b8 bn' bs qo qn qc (some ⟨bs1, os1, none⟩) sc (some ⟨bt1, ot1, none⟩) tc (some ⟨gw, 0, none⟩) wn j [.slice xsa xsn xsc, .slice xaa xan xac] [.slice ysa ysn ysc, .slice yaa yan yac] P1 P2 S T BW xa ya q)) (fun _ _ => False)
            (fun j => sp_bears HW9.out) (fun c W W' row h _ _ => h) (fun j x => rndOwn_bears HW9.out) (fun j W h => h) HI0.out
            (fun l J Jx W hK hJ hY h0 => allseq_sp HSZ.out (bhL b1 g1 g2 b8 bn' bs qo qn qc (some ⟨bs1, os1, none⟩) sc (some ⟨bt1, ot1, none⟩) tc (some ⟨gw, 0, none⟩) wn j [.slice xsa xsn xsc, .slice xaa xan xac] [.slice ysa ysn ysc, .slice yaa yan yac] P1 P2 S T BW xa ya) (fun _ => rfl) 5 l (by omega) J Jx W hK hJ hY h0) ?a1 ?assign ?body ?done ?stop
          case assign =>
            intro l x W K hK
            simp [rndV]
            gi_wp2
            exact hK
          case body =>
            intro l q x V hqN hI hx
            obtain ⟨x1, xo, xn, xc⟩ := x
            obtain ⟨hx1, hx2⟩ := hx
            simp only at hx1 hx2
            have hx1' := hx1.symm
            subst hx1'
            have hjp : (q : Int) < pr BW := by rw [HM.out.2]; omega
            have hrx := ixL_rg HM.out.1 hjp
            have hix := ixL_bd HM.out.1 hjp 0
            have hxl := (hx2.ls (i := 14) rfl).len
            have hxk : xn = j := by rw [ixL_len, HBWL.out] at hxl; exact hxl.symm
            subst hxk
            obtain ⟨F, hFs, hF, hback⟩ := hx2.rebase2
            obtain ⟨⟨yo, yc⟩, hF2⟩ := hF.ex (i := 13) rfl
            have hF3 := hF2.split (i := 13) rfl
            simp only [bhL, seqL] at hF3
            have HS_ := hF3
            try simp only [List.cons_append, List.nil_append, List.set_cons_zero, List.set_cons_succ, List.map_cons, List.map_nil, List.getD_cons_zero, List.getD_cons_succ, World.size_alloc] at HS_
            have HS := Lib.hid HS_
            clear HS_
            have HBK := Lib.hid hback
            have HPL : Hid ((bAs S T xa ya q).length = q) := by show _ = _; simp [bAs]
            have HPC : Hid (bAs S T xa ya (q + 1) = bAs S T xa ya q ++ [bV S T xa ya (ixL BW q)]) := by show _ = _; unfold bAs; rw [List.range_succ, List.map_append, List.map_singleton, HBW.out]
            have HRX6 := Lib.hid hrx
            have HXL := Lib.hid hxl
            obtain ⟨t, HTI⟩ : ∃ z, Hid (ixL BW q = z) := ⟨_, rfl⟩
            rw [HTI.out] at HS HPC HRX6 HXL hix
            obtain ⟨i0, hi0, hza, hzb, hzc⟩ := info_parts (P := Tryz.prog) (e := 2) (z := .int .i64 0) (size := 1) (bytes := 8) (by kernel_rfl)
            have hb1 : ((bAs S T xa ya q).length + 1) * 8 ≤ 140737488351232 := by rw [HPL.out]; omega
            have HTR := HS.out.toRow (i := 14) rfl
            obtain ⟨c1, c2, c3, c4, c5⟩ := HTR.rcap (i := 14) rfl
            obtain ⟨gx, rfl⟩ := c5 (by omega)
            have u0 := HTR.cell (i := 14) rfl 0 (.int .i64 (t.getD 0 0)) (getD_map_int _ _ (by rw [HXL.out]; omega))
            have u1 := HTR.frozen (i := 14) rfl 0
            obtain ⟨g3, o3, e3, hc3⟩ := (HS.out.ls (i := 9) rfl).at (by omega)
            have d1 := hc3 0 (by omega)
            rw [Nat.add_zero] at d1
            cases e3
            have y1 := HS.out.cell (i := 8) rfl 0 _ rfl
            have y2 := HS.out.cell (i := 10) rfl 0 _ rfl
            have hs0 := HSB.out 0
            have hp1 : (0 : Int) < xn := by omega
            have hxc : (0 : Int) < xc := by omega
            have hp2 : 0 < xc := by omega
            have HFIN : Hid (∀ (XL : List Int) (x : Int), bV S T xa ya t = x → ∀ (w9 : World) (b9 : Option Addr) (d9 : Nat), Sp F V w9 [Pt.row ⟨3, 1, some ⟨bn', 0, none⟩, 1, 1, [.int .i64 (szE BW)]⟩, Pt.ints 3 qo qn qc BW, Pt.row ⟨25, 1, some ⟨bs, 0, none⟩, 1, 1, [.slice qo qn qc]⟩, Pt.row ⟨38, 2, some ⟨b1, 0, none⟩, 1, 1, [.slice xsa xsn xsc, .slice xaa xan xac]⟩, Pt.row ⟨38, 2, some ⟨b1 + 1, 0, none⟩, 1, 1, [.slice ysa ysn ysc, .slice yaa yan yac]⟩, Pt.row ⟨38, 2, some ⟨b1 + 1 + 1, 0, none⟩, 1, 1, [.slice none 0 0, .slice none 0 0]⟩, P1, P2, Pt.row ⟨25, 1, some ⟨g1, 0, none⟩, 1, 1, [.slice (some ⟨bs1, os1, none⟩) xn sc]⟩, Pt.ints 3 (some ⟨bs1, os1, none⟩) xn sc S, Pt.row ⟨25, 1, some ⟨g2, 0, none⟩, 1, 1, [.slice (some ⟨bt1, ot1, none⟩) xn tc]⟩, Pt.ints 3 (some ⟨bt1, ot1, none⟩) xn tc T, Pt.ints 3 (some ⟨gw, 0, none⟩) xn wn BW, Pt.nil, Pt.ints 3 (some ⟨gx, 0, none⟩) xn xc XL, Pt.row ⟨38, 2, some ⟨b8, 0, none⟩, 1, 1, [.slice (some ⟨gw, 0, none⟩) xn wn, .slice yo (bAs S T xa ya q).length yc]⟩, Pt.ints 2 b9 ((bAs S T xa ya q).length + 1) d9 (bAs S T xa ya q ++ [x])] → KeepsOthers V (w9.setCell ⟨b8, 1, none⟩ (.slice b9 ((bAs S T xa ya q).length + 1) d9)) ∧ Sp Non w (w9.setCell ⟨b8, 1, none⟩ (.slice b9 ((bAs S T xa ya q).length + 1) d9)) (bhL b1 g1 g2 b8 bn' bs qo qn qc (some ⟨bs1, os1, none⟩) sc (some ⟨bt1, ot1, none⟩) tc (some ⟨gw, 0, none⟩) wn xn [.slice xsa xsn xsc, .slice xaa xan xac] [.slice ysa ysn ysc, .slice yaa yan yac] P1 P2 S T BW xa ya (q + 1))) := by
              intro XL x hx w9 b9 d9 h9
              have h10 := (h9.put (i := 15) rfl 1 (.slice b9 ((bAs S T xa ya q).length + 1) d9)).pair (i := 15) (j := 16) rfl (by decide) rfl
              have h11 := (h10.sub (i := 15) rfl (PB b8 (some ⟨gw, 0, none⟩) xn wn (bAs S T xa ya (q + 1))) (fun F hF => ⟨(b9, d9), by rw [HPC.out, List.length_append, hx]; exact hF⟩)).pick [0, 1, 2, 3, 4, 5, 6, 7, 8, 9, 10, 11, 12, 15] (by decide)
              obtain ⟨k1, k2⟩ := HBK.out _ _ h11
              exact ⟨k2, k1⟩
            have HVX : Hid (bV S T xa ya t = if t.getD 0 0 < S.getD 0 0 then pkAt xa (atF S t) else pkAt ya (atF T (t.set 0 (t.getD 0 0 - S.getD 0 0)))) := rfl
            have HRDX : Hid (∀ w'' L, Sp F V w'' L → L[6]? = some P1 → L[7]? = some P2 → Ar.Is ⟨xsa, xsn, xsc, xaa, xan, xac, xs, xa⟩ w'' ∧ Ar.Is ⟨ysa, ysn, ysc, yaa, yan, yac, ys, ya⟩ w'') := fun w'' L h e1 e2 => by
              have h2 := (HBK.out w'' _ h).1
              obtain ⟨F1, hF1, -⟩ := h2.get e1
              obtain ⟨F2, hF2, -⟩ := h2.get e2
              exact ⟨HRX.out w'' F1 h2.belowN hF1, HRY.out w'' F2 h2.belowN hF2⟩
            clear hx1 hx2 hI hF hF2 hF3 hback c1 c2 c3 c4 c5 hc3 hrx hxl hFs hjp
            have HTR2 := Lib.hid HTR
            clear HTR
            by_cases hlt2 : t.getD 0 0 < S.getD 0 0
            · have hv := HVX.out
              rw [if_pos hlt2] at hv
              have HSD_ := HS.out.via (adrew1 V)
              try simp only [List.cons_append, List.nil_append, List.set_cons_zero, List.set_cons_succ, List.map_cons, List.map_nil, List.getD_cons_zero, List.getD_cons_succ, World.size_alloc] at HSD_
              have HSD := Lib.hid HSD_
              clear HSD_
              have cp := at6_any (HSD.out.ls (i := 9) rfl) (HSD.out.ls (i := 14) rfl)
              obtain ⟨fj, HFJ⟩ : ∃ z, Hid (atF S t = z) := ⟨_, rfl⟩
              have hbd := atF_bd3 S (t) (by rw [HPS.out]; omega)
              rw [HFJ.out, HPS.out] at hbd
              rw [HFJ.out] at cp hv
              have CP := Lib.hid cp
              have HIA := (HRDX.out _ _ HSD.out rfl rfl).1
              have hHF : ∃ x : Int, Hid (pkAt xa fj = x) ∧ (-9223372036854775808 ≤ x ∧ x ≤ 9223372036854775807) := ⟨_, rfl, by unfold pkAt; split; exact HIA.ats.rng _; omega⟩
              obtain ⟨x, HXV, hxr⟩ := hHF
              rw [HXV.out] at hv
              have HFN := Lib.hid (HFIN.out t x hv)
              have HVV := Lib.hid (HSD.out.via (abal (V.drew) (.cells #[.int .i64 x] 2)))
              have w1 := HSD.out.cell (i := 15) rfl 1 _ rfl
              have w2' := HSD.out.cell (i := 3) rfl 1 _ rfl
              have hlb := (HSD.out.rlt (i := 15) rfl).1
              have m1 : ¬ V.drew.heap.size = b8 := by omega
              have m2 : ¬ b8 = V.drew.heap.size := by omega
              obtain ⟨v1', HV1'⟩ : ∃ z, Hid (S.getD 0 0 = z) := ⟨_, rfl⟩
              obtain ⟨v3', HV3'⟩ : ∃ z, Hid (t.getD 0 0 = z) := ⟨_, rfl⟩
              rw [HV1'.out] at d1 hlt2
              rw [HV3'.out] at u0 hlt2
              have hdl := decide_eq_true hlt2
              clear HTR2 HBK HRDX HFIN hv hs0 hix cp
              gi_upto_region 22 with fail
              refine in_tail 6 (by kernel_rfl) (by kernel_rfl) (by kernel_rfl) ?_
              simp only [List.take_succ_cons, List.take_zero, List.drop_succ_cons, List.drop_zero]
              iterate 6 still_step
              refine wpStill_nil ?_
              go_wp2
              refine OnlyN.mk ?_
              (try simp only [Exit.inBlock, Exit.then])
              gi_wp2_with fail
              refine ⟨trivial, (CallsIn.inRound l (callsIn_wide.2 CP.out)).mono ?_⟩; rintro e' v9 ⟨rfl, hv9⟩
              have hv9' := hv9.symm
              subst hv9'
              clear CP hv9
              rcases (show fj = -1 ∨ ∃ p : Nat, fj = p by rcases (show fj = -1 ∨ 0 ≤ fj by omega) with h | h; exact .inl h; exact .inr ⟨fj.toNat, (Int.toNat_of_nonneg h).symm⟩) with rfl | ⟨p, rfl⟩
              · obtain rfl : x = 0 := by rw [← HXV.out]; rfl
                clear HIA HXV
                gi_upto_region 30 with fail
                refine in_list (by kernel_rfl) ?_
                go_wp2_with (at_builtin; refine Sp.wpList_loc (i := 16) HVV.out rfl _ _ 28 rfl 2 i0 Tryz.underlying28 hi0 hza hzb hzc rfl rfl rfl (ls_lit6 V.drew _ (by omega)) hb1 ?_)
                intro b9 d9 w9' h9
                have q1 := h9.cell (i := 15) rfl 1 _ rfl
                have q2 := h9.frozen (i := 15) rfl 1
                have HFF := Lib.hid (HFN.out w9' b9 d9 h9)
                clear h9 HFN HVV
                go_wp2
                refine OnlyN.mk ?_
                (try simp only [Exit.inBlock, Exit.then])
                exact HFF.out
              · have hpl : p < xan := by omega
                obtain ⟨g5, o5, e5, hc5⟩ := HIA.ats.at (by simp only; omega)
                have e1 := hc5 p hpl
                simp only at e5 e1
                subst e5
                have ex : xa.getD p 0 = x := by rw [← HXV.out]; unfold pkAt; rw [if_pos (Int.natCast_nonneg p), Int.toNat_natCast]
                rw [ex] at e1
                have hpi : (p : Int) < xan := by omega
                have hp0 : (0 : Int) ≤ p := by omega
                clear ex hc5
                clear HIA HXV
                gi_upto_region 30 with fail
                refine in_list (by kernel_rfl) ?_
                go_wp2_with (at_builtin; refine Sp.wpList_loc (i := 16) HVV.out rfl _ _ 28 rfl 2 i0 Tryz.underlying28 hi0 hza hzb hzc rfl rfl rfl (ls_lit6 V.drew _ (by omega)) hb1 ?_)
                intro b9 d9 w9' h9
                have q1 := h9.cell (i := 15) rfl 1 _ rfl
                have q2 := h9.frozen (i := 15) rfl 1
                have HFF := Lib.hid (HFN.out w9' b9 d9 h9)
                clear h9 HFN HVV
                go_wp2
                refine OnlyN.mk ?_
                (try simp only [Exit.inBlock, Exit.then])
                exact HFF.out
            · have hv := HVX.out
              rw [if_neg hlt2] at hv
              have hix1 := hix
              have hz4 : -9223372036854775808 ≤ t.getD 0 0 - S.getD 0 0 ∧ t.getD 0 0 - S.getD 0 0 ≤ 9223372036854775807 := by omega
              have h80 := (HTR2.out.put (i := 14) rfl 0 (.int .i64 (t.getD 0 0 - S.getD 0 0))).via (adrew1 _)
              rw [← List.map_set] at h80
              have H8_ := h80.toInts (i := 14) (zs := t.set 0 (t.getD 0 0 - S.getD 0 0)) rfl (by omega) (rng_set HRX6.out 0 hz4)
              try simp only [List.cons_append, List.nil_append, List.set_cons_zero, List.set_cons_succ, List.map_cons, List.map_nil, List.getD_cons_zero, List.getD_cons_succ, World.size_alloc] at H8_
              have H8 := Lib.hid H8_
              clear H8_
              obtain ⟨V8, HV8⟩ : ∃ z, Hid ((V.setCell ⟨gx, 0, none⟩ (.int .i64 (t.getD 0 0 - S.getD 0 0))).drew = z) := ⟨_, rfl⟩
              rw [HV8.out] at H8
              have H8D_ := H8.out.via (adrew1 V8)
              try simp only [List.cons_append, List.nil_append, List.set_cons_zero, List.set_cons_succ, List.map_cons, List.map_nil, List.getD_cons_zero, List.getD_cons_succ, World.size_alloc] at H8D_
              have H8D := Lib.hid H8D_
              clear H8D_
              have cp := at6_any (H8D.out.ls (i := 11) rfl) (H8D.out.ls (i := 14) rfl)
              obtain ⟨fj, HFJ⟩ : ∃ z, Hid (atF T (t.set 0 (t.getD 0 0 - S.getD 0 0)) = z) := ⟨_, rfl⟩
              have hbd := atF_bd3 T ((t.set 0 (t.getD 0 0 - S.getD 0 0))) (by rw [HPT.out]; omega)
              rw [HFJ.out, HPT.out] at hbd
              rw [HFJ.out] at cp hv
              have CP := Lib.hid cp
              have HIA := (HRDX.out _ _ H8D.out rfl rfl).2
              have hHF : ∃ x : Int, Hid (pkAt ya fj = x) ∧ (-9223372036854775808 ≤ x ∧ x ≤ 9223372036854775807) := ⟨_, rfl, by unfold pkAt; split; exact HIA.ats.rng _; omega⟩
              obtain ⟨x, HXV, hxr⟩ := hHF
              rw [HXV.out] at hv
              have HFN := Lib.hid (HFIN.out (t.set 0 (t.getD 0 0 - S.getD 0 0)) x hv)
              have HVV := Lib.hid (H8D.out.via (abal (V8.drew) (.cells #[.int .i64 x] 2)))
              have w1 := H8D.out.cell (i := 15) rfl 1 _ rfl
              have w2' := H8D.out.cell (i := 4) rfl 1 _ rfl
              have hlb := (H8D.out.rlt (i := 15) rfl).1
              have m1 : ¬ V8.drew.heap.size = b8 := by omega
              have m2 : ¬ b8 = V8.drew.heap.size := by omega
              have y2' := H8D.out.cell (i := 10) rfl 0 _ rfl
              obtain ⟨v1', HV1'⟩ : ∃ z, Hid (S.getD 0 0 = z) := ⟨_, rfl⟩
              obtain ⟨v3', HV3'⟩ : ∃ z, Hid (t.getD 0 0 = z) := ⟨_, rfl⟩
              rw [HV1'.out] at d1 hlt2 hs0
              rw [HV3'.out] at u0 hlt2 hix1
              rw [HV1'.out, HV3'.out] at HV8
              have hdl := decide_eq_false hlt2
              have z7 : IntKind.i64.wrap (v3' - v1') = v3' - v1' := IntWalk.i64_in _ (by omega)
              clear HTR2 HBK HRDX HFIN hv hix hs0 h80 hix1 hz4 cp
              gi_upto_region 22 with fail
              refine in_tail 6 (by kernel_rfl) (by kernel_rfl) (by kernel_rfl) ?_
              simp only [List.take_succ_cons, List.take_zero, List.drop_succ_cons, List.drop_zero]
              iterate 6 still_step
              refine wpStill_nil ?_
              go_wp2
              refine OnlyN.mk ?_
              (try simp only [Exit.inBlock, Exit.then])
              gi_upto_region 26 with fail
              refine in_tail 8 (by kernel_rfl) (by kernel_rfl) (by kernel_rfl) ?_
              simp only [List.take_succ_cons, List.take_zero, List.drop_succ_cons, List.drop_zero]
              iterate 8 still_step
              refine wpStill_nil ?_
              go_wp2
              rw [HV8.out]
              refine OnlyN.mk ?_
              (try simp only [Exit.inBlock, Exit.then])
              clear y1 y2 d1 u0 u1
              gi_wp2_with fail
              refine ⟨trivial, (CallsIn.inRound l (callsIn_wide.2 CP.out)).mono ?_⟩; rintro e' v9 ⟨rfl, hv9⟩
              have hv9' := hv9.symm
              subst hv9'
              clear CP hv9
              rcases (show fj = -1 ∨ ∃ p : Nat, fj = p by rcases (show fj = -1 ∨ 0 ≤ fj by omega) with h | h; exact .inl h; exact .inr ⟨fj.toNat, (Int.toNat_of_nonneg h).symm⟩) with rfl | ⟨p, rfl⟩
              · obtain rfl : x = 0 := by rw [← HXV.out]; rfl
                clear HIA HXV
                gi_upto_region 30 with fail
                refine in_list (by kernel_rfl) ?_
                go_wp2_with (at_builtin; refine Sp.wpList_loc (i := 16) HVV.out rfl _ _ 28 rfl 2 i0 Tryz.underlying28 hi0 hza hzb hzc rfl rfl rfl (ls_lit6 V8.drew _ (by omega)) hb1 ?_)
                intro b9 d9 w9' h9
                have q1 := h9.cell (i := 15) rfl 1 _ rfl
                have q2 := h9.frozen (i := 15) rfl 1
                have HFF := Lib.hid (HFN.out w9' b9 d9 h9)
                clear h9 HFN HVV
                go_wp2
                refine OnlyN.mk ?_
                (try simp only [Exit.inBlock, Exit.then])
                exact HFF.out
              · have hpl : p < yan := by omega
                obtain ⟨g5, o5, e5, hc5⟩ := HIA.ats.at (by simp only; omega)
                have e1 := hc5 p hpl
                simp only at e5 e1
                subst e5
                have ex : ya.getD p 0 = x := by rw [← HXV.out]; unfold pkAt; rw [if_pos (Int.natCast_nonneg p), Int.toNat_natCast]
                rw [ex] at e1
                have hpi : (p : Int) < yan := by omega
                have hp0 : (0 : Int) ≤ p := by omega
                clear ex hc5
                clear HIA HXV
                gi_upto_region 30 with fail
                refine in_list (by kernel_rfl) ?_
                go_wp2_with (at_builtin; refine Sp.wpList_loc (i := 16) HVV.out rfl _ _ 28 rfl 2 i0 Tryz.underlying28 hi0 hza hzb hzc rfl rfl rfl (ls_lit6 V8.drew _ (by omega)) hb1 ?_)
                intro b9 d9 w9' h9
                have q1 := h9.cell (i := 15) rfl 1 _ rfl
                have q2 := h9.frozen (i := 15) rfl 1
                have HFF := Lib.hid (HFN.out w9' b9 d9 h9)
                clear h9 HFN HVV
                go_wp2
                refine OnlyN.mk ?_
                (try simp only [Exit.inBlock, Exit.then])
                exact HFF.out
          case done =>
            rintro D V hD hI hKD
            obtain ⟨⟨yo, yc⟩, hF2⟩ := hI.ex (i := 13) rfl
            have hF3 := hF2.split (i := 13) rfl
            simp only [bhL, seqL] at hF3
            have hpl : (bAs S T xa ya N).length = N := by simp [bAs]
            simp only [hpl] at hF3
            have h7 := hF3.arrOf (i := 12) (j := 15) rfl (by decide) rfl
            have H7_ := h7
            try simp only [List.cons_append, List.nil_append, List.set_cons_zero, List.set_cons_succ, List.map_cons, List.map_nil, List.getD_cons_zero, List.getD_cons_succ, World.size_alloc] at H7_
            have H7 := Lib.hid H7_
            clear H7_
            have x2 := H7.out.cell (i := 5) rfl 0 _ rfl
            have x3 := H7.out.cell (i := 5) rfl 1 _ rfl
            have y0 := H7.out.cell (i := 14) rfl 0 _ rfl
            have y1 := H7.out.cell (i := 14) rfl 1 _ rfl
            have f2 := H7.out.frozen (i := 5) rfl 0
            have f3 := H7.out.frozen (i := 5) rfl 1
            have HKD := Lib.hid hKD
            obtain ⟨rs, ra⟩ := HR.out
            subst rs ra
            clear hI hF2 hF3 h7 hKD hpl HI0
            go_wp2
            have hX := (H7.out.put (i := 5) rfl 0 (.slice (some ⟨gw, 0, none⟩) j wn)).put (i := 5) rfl 1 (.slice yo N yc)
            have hK' := ((KeepsOthers.setCell V ⟨b1 + 1 + 1, 0, none⟩ (.slice (some ⟨gw, 0, none⟩) j wn)).trans (KeepsOthers.setCell _ ⟨b1 + 1 + 1, 1, none⟩ (.slice yo N yc))).same D _ HKD.out rfl
            have hfin := sp_bears HW9.out _ _ (some D) hX (grownBy_putObj' _ D (.deferred none)) (fun r e => by cases e; exact ⟨hD, _, hK', rfl⟩)
            have hc4 := hfin.cell (i := 5) rfl 0 _ rfl
            have hc5 := hfin.cell (i := 5) rfl 1 _ rfl
            have HF := Lib.hid (hfin.madeE (i := 15) (B := ⟨some ⟨gw, 0, none⟩, j, wn, yo, N, yc, RS, bAs S T xa ya N⟩) rfl 0)
            clear hX hfin
            exact marks_ret1 (v := .tuple #[.agg #[.slice (some ⟨gw, 0, none⟩) j wn, .slice yo N yc], .int .i64 0]) rfl hK' (by simp [results, Tryz.f98, go_sem, hc4, hc5]) HF.out
          case stop =>
            rintro D c W _ h _
            exact h.elim
        · obtain rfl : RE = 17 := by rw [HE.out.1, mdE, if_neg hm]
          obtain rfl : RS = [] := by rw [HE.out.2.1, mdS, if_neg hm]
          obtain rfl : RA = [] := by rw [HE.out.2.2, if_neg hm]
          obtain ⟨e, he⟩ : ∃ z, z = mayE BW := ⟨_, rfl⟩
          rw [← he] at CM hm
          have q0 : (e != 0) = true := by simpa using hm
          have x2 := H6.out.cell (i := 2) rfl 0 _ rfl
          have x3 := H6.out.cell (i := 2) rfl 1 _ rfl
          have f2 := H6.out.frozen (i := 2) rfl 0
          have f3 := H6.out.frozen (i := 2) rfl 1
          have HF : Hid (∀ u v, MadeE w [] [] 17 (.returned (.tuple #[.agg #[.slice none 0 0, .slice none 0 0], .int .i64 17])) ((wr.setCell ⟨b1 + 1 + 1, 0, none⟩ u).setCell ⟨b1 + 1 + 1, 1, none⟩ v)) := fun u v => made_nil 17 ((H6.out.put (i := 2) rfl 0 u).put (i := 2) rfl 1 v).belowN
          clear he hm HE H6
          go_wp2_with fail
          refine CM.out.mono ?_; rintro e w' ⟨rfl, hw'⟩
          have hw'' := hw'.symm
          subst hw''
          go_wp2
          exact marks_ret0 (v := .tuple #[.agg #[.slice none 0 0, .slice none 0 0], .int .i64 17]) rfl (by simp [results, Tryz.f98, go_sem, *]) (HF.out _ _)
theorem behind_any {w : World} {X Y : Ar} (hX : X.Is w) (hY : Y.Is w) (hmx : amE X.s X.a = 0) (hmy : amE Y.s Y.a = 0) :
    Calls Tryz.prog 98 #[X.v, Y.v] w (MadeE w (beS X.s Y.s) (beA X.s X.a Y.s Y.a) (beE X.s Y.s)) := by
  have h1 := hX.shp.len
  have h2 := hY.shp.len
  by_cases h : X.sn = 0 ∧ Y.sn = 0
  · have h3 : X.s.length = 0 ∧ Y.s.length = 0 := by omega
    rw [show beS X.s Y.s = [2] from if_pos h3, show beA X.s X.a Y.s Y.a = [X.a.getD 0 0, Y.a.getD 0 0] from if_pos h3, show beE X.s Y.s = 0 from if_pos h3]
    exact behind_ss hX hY hmx hmy h.1 h.2
  · have h3 : ¬ (X.s.length = 0 ∧ Y.s.length = 0) := by omega
    rw [show beS X.s Y.s = _ from if_neg h3, show beA X.s X.a Y.s Y.a = _ from if_neg h3, show beE X.s Y.s = _ from if_neg h3]
    exact behind_ok hX hY hmx hmy h
end Go.Proofs.YthackmkdicpdeaaGreat

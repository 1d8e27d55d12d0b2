/- Contracts of the document's listed and Part. -/
import Derived.Test.YthackmkdicpdeaaRef4Base
import Derived.Test.YthackmkdicpdeaaCellPart
namespace Go.Proofs.Ythackmkdicpdeaa
open Go.RowKit Go.Lib
set_option linter.unusedVariables false
set_option linter.unusedSimpArgs false
attribute [local go_sem] alloc_drewN setCell_drewN
def ListP4 (w : World) (ta : Option Addr) (tn tc : Nat) (s : List Int) (bo : Option Addr) (bn bc : Nat) (e : Ending) (w' : World) : Prop :=
  ∃ (ro : Option Addr) (rn rc : Nat) (P0 : Pt), e = .returned (.agg #[.slice ro rn rc, .slice bo bn bc]) ∧ Sp Non w w' [P0] ∧ ∀ w'' F, Ls w'' ta tn tc s → P0.P w'' F → Ls w'' ro rn rc (lsdL s)
set_option maxRecDepth 100000 in
set_option maxHeartbeats 1600000 in
theorem rlisted_e {w : World} {A : Ar} (hA : A.Is w) (h0 : A.sn = 0) : Calls Try.prog 84 #[A.v] w (ListP4 w A.sa A.sn A.sc A.s A.aa A.an A.ac) := by
  have hsl := hA.shp.len
  obtain ⟨sa, sn, sc, aa, an, ac, s, a⟩ := A
  simp only [Ar.v] at *
  have h0w := ((Sp.start Non w).alloc 45 2 1 #[.slice sa sn sc, .slice aa an ac] rfl (by decide)).alloc 45 2 1 #[.slice none 0 0, .slice none 0 0] rfl (by decide)
  obtain ⟨W, HW⟩ : ∃ z, Hid ((w.alloc (.cells #[.slice sa sn sc, .slice aa an ac] 45)).alloc (.cells #[.slice none 0 0, .slice none 0 0] 45) = z) := ⟨_, rfl⟩
  rw [HW.out] at h0w
  have H1_ := h0w
  try simp only [List.cons_append, List.nil_append, List.set_cons_zero, List.set_cons_succ, List.map_cons, List.map_nil, List.getD_cons_zero, List.getD_cons_succ, World.size_alloc] at H1_
  have H1 := Lib.hid H1_
  clear H1_
  obtain ⟨g, HG⟩ : ∃ z, Hid (w.heap.size = z) := ⟨_, rfl⟩
  rw [HG.out] at H1
  subst h0
  have hs0 : s = [] := List.eq_nil_of_length_eq_zero hsl
  subst hs0
  have h2 := (H1.out.alloc 3 1 1 #[.int .i64 1] rfl (by decide)).toInts (i := 2) (zs := [1]) rfl (by decide) (fun i => by match i with | 0 => simp | i + 1 => simp)
  have y0 : (W.alloc (.cells #[.int .i64 1] 3)).cell? ⟨g, 0, none⟩ = some (.slice sa 0 sc) := h2.cell (i := 0) rfl 0 _ rfl
  have y2 : (W.alloc (.cells #[.int .i64 1] 3)).frozen? ⟨g, 0, none⟩ = false := h2.frozen (i := 0) rfl 0
  have h3 := h2.put (i := 0) rfl 0 (.slice (some ⟨W.heap.size, 0, none⟩) 1 1)
  obtain ⟨W3, HW3⟩ : ∃ z, Hid ((W.alloc (.cells #[.int .i64 1] 3)).setCell ⟨g, 0, none⟩ (.slice (some ⟨W.heap.size, 0, none⟩) 1 1) = z) := ⟨_, rfl⟩
  rw [HW3.out] at h3
  have H3_ := h3
  try simp only [List.cons_append, List.nil_append, List.set_cons_zero, List.set_cons_succ, List.map_cons, List.map_nil, List.getD_cons_zero, List.getD_cons_succ, World.size_alloc] at H3_
  have H3 := Lib.hid H3_
  clear H3_
  have HF : Hid (∀ u v, ListP4 w sa 0 sc [] aa an ac (.returned (.agg #[.slice (some ⟨W.heap.size, 0, none⟩) 1 1, .slice aa an ac])) ((W3.setCell ⟨g + 1, 0, none⟩ u).setCell ⟨g + 1, 1, none⟩ v)) := fun u v =>
    ⟨_, _, _, _, rfl, ((H3.out.put (i := 1) rfl 0 u).put (i := 1) rfl 1 v).pick [2] (by decide), fun w'' F _ hP => (Sp.one hP).ls (i := 0) rfl⟩
  have x0 := H3.out.cell (i := 0) rfl 0 _ rfl
  have x1 := H3.out.cell (i := 0) rfl 1 _ rfl
  have p0 := H3.out.cell (i := 1) rfl 0 _ rfl
  have p1 := H3.out.cell (i := 1) rfl 1 _ rfl
  have f0 := H3.out.frozen (i := 1) rfl 0
  have f1 := H3.out.frozen (i := 1) rfl 1
  clear h2 h3 H3
  clear hA h0w
  go_enter Try.func84, Try.ntmps84
  go_upto_region 2 with fail
  rw [HW.out, HG.out]
  go_upto_region 3 with fail
  rw [HW3.out]
  clear y0 y2
  go_wp2
  exact bodyPost_ret (v := .agg #[.slice (some ⟨W.heap.size, 0, none⟩) 1 1, .slice aa an ac]) (by simp [results, Try.results84, go_sem, *]) rfl (HF.out _ _)
set_option maxRecDepth 100000 in
set_option maxHeartbeats 1600000 in
theorem rlisted_f {w : World} {A : Ar} (hA : A.Is w) (h0 : A.sn ≠ 0) : Calls Try.prog 84 #[A.v] w (ListP4 w A.sa A.sn A.sc A.s A.aa A.an A.ac) := by
  have hsl := hA.shp.len
  obtain ⟨sa, sn, sc, aa, an, ac, s, a⟩ := A
  simp only [Ar.v] at *
  have h0w := ((Sp.start Non w).alloc 45 2 1 #[.slice sa sn sc, .slice aa an ac] rfl (by decide)).alloc 45 2 1 #[.slice none 0 0, .slice none 0 0] rfl (by decide)
  obtain ⟨W, HW⟩ : ∃ z, Hid ((w.alloc (.cells #[.slice sa sn sc, .slice aa an ac] 45)).alloc (.cells #[.slice none 0 0, .slice none 0 0] 45) = z) := ⟨_, rfl⟩
  rw [HW.out] at h0w
  have H1_ := h0w
  try simp only [List.cons_append, List.nil_append, List.set_cons_zero, List.set_cons_succ, List.map_cons, List.map_nil, List.getD_cons_zero, List.getD_cons_succ, World.size_alloc] at H1_
  have H1 := Lib.hid H1_
  clear H1_
  obtain ⟨g, HG⟩ : ∃ z, Hid (w.heap.size = z) := ⟨_, rfl⟩
  rw [HG.out] at H1
  have q0 : ((sn : Int) == 0) = false := by simp; omega
  have e1 : lsdL s = s := if_neg (by omega)
  have HE1 := Lib.hid e1
  have HF : Hid (∀ u v, ListP4 w sa sn sc s aa an ac (.returned (.agg #[.slice sa sn sc, .slice aa an ac])) ((W.setCell ⟨g + 1, 0, none⟩ u).setCell ⟨g + 1, 1, none⟩ v)) := fun u v =>
    ⟨_, _, _, _, rfl, ((H1.out.put (i := 1) rfl 0 u).put (i := 1) rfl 1 v).pick [0] (by decide), fun w'' F h _ => by rw [HE1.out]; exact h⟩
  have p0 := H1.out.cell (i := 1) rfl 0 _ rfl
  have p1 := H1.out.cell (i := 1) rfl 1 _ rfl
  have f0 := H1.out.frozen (i := 1) rfl 0
  have f1 := H1.out.frozen (i := 1) rfl 1
  have x0 := H1.out.cell (i := 0) rfl 0 _ rfl
  have x1 := H1.out.cell (i := 0) rfl 1 _ rfl
  clear e1
  clear hA h0w
  go_enter Try.func84, Try.ntmps84
  go_upto_region 3 with fail
  rw [HW.out, HG.out]
  go_wp2
  exact bodyPost_ret (v := .agg #[.slice sa sn sc, .slice aa an ac]) (by simp [results, Try.results84, go_sem, *]) rfl (HF.out _ _)
theorem rlisted_any {w : World} {A : Ar} (hA : A.Is w) : Calls Try.prog 84 #[A.v] w (ListP4 w A.sa A.sn A.sc A.s A.aa A.an A.ac) := by
  by_cases h : A.sn = 0
  · exact rlisted_e hA h
  · exact rlisted_f hA h
set_option maxHeartbeats 1600000 in
theorem rpart_bad {w : World} {A : Ar} (hA : A.Is w) (f n : Int) (hm : amE A.s A.a ≠ 0) : Calls Try.prog 44 #[A.v, .int .i64 f, .int .i64 n] w (MadeE w [] [] 1) := by
  obtain ⟨sa, sn, sc, aa, an, ac, s, a⟩ := A
  simp only [Ar.v] at hm ⊢
  obtain ⟨W, HW⟩ : ∃ z, Hid ((w.alloc (.cells #[.slice sa sn sc, .slice aa an ac] 45)).alloc (.cells #[.slice none 0 0, .slice none 0 0] 45) = z) := ⟨_, rfl⟩
  have h0 := ((Sp.start Non w).alloc 45 2 1 #[.slice sa sn sc, .slice aa an ac] rfl (by decide)).alloc 45 2 1 #[.slice none 0 0, .slice none 0 0] rfl (by decide)
  rw [HW.out] at h0
  have H0_ := h0
  try simp only [List.cons_append, List.nil_append, List.set_cons_zero, List.set_cons_succ, List.map_cons, List.map_nil, List.getD_cons_zero, List.getD_cons_succ, World.size_alloc] at H0_
  have H0 := Lib.hid H0_
  clear H0_
  have cm := rmay4_any (hA.below H0.out.belowN (Nat.le_refl _))
  simp only [Ar.v] at cm
  rw [decide_eq_false hm] at cm
  have CM := Lib.hid cm
  have y0 := H0.out.cell (i := 0) rfl 0 _ rfl
  have y1 := H0.out.cell (i := 0) rfl 1 _ rfl
  clear hA hm h0 cm
  go_enter Try.func44, Try.ntmps44
  go_wp2_with fail
  rw [HW.out]
  refine CM.out.mono ?_; rintro e w1 ⟨rfl, hb1⟩
  have H1_ := H0.out.via hb1
  try simp only [List.cons_append, List.nil_append, List.set_cons_zero, List.set_cons_succ, List.map_cons, List.map_nil, List.getD_cons_zero, List.getD_cons_succ, World.size_alloc] at H1_
  have H1 := Lib.hid H1_
  clear H1_
  have x0 := H1.out.cell (i := 1) rfl 0 _ rfl
  have x1 := H1.out.cell (i := 1) rfl 1 _ rfl
  have f0 := H1.out.frozen (i := 1) rfl 0
  have f1 := H1.out.frozen (i := 1) rfl 1
  have HF : Hid (∀ u v, MadeE w [] [] 1 (.returned (.tuple #[.agg #[.slice none 0 0, .slice none 0 0], .int .i64 1])) ((w1.setCell ⟨w.heap.size + 1, 0, none⟩ u).setCell ⟨w.heap.size + 1, 1, none⟩ v)) := fun u v =>
    made_nil 1 ((H1.out.put (i := 1) rfl 0 u).put (i := 1) rfl 1 v).belowN
  clear hb1 y0 y1
  go_wp2
  exact bodyPost_ret (v := .tuple #[.agg #[.slice none 0 0, .slice none 0 0], .int .i64 1]) (by simp [results, Try.results44, go_sem, *]) rfl (HF.out _ _)
set_option maxRecDepth 100000 in
set_option maxHeartbeats 3200000 in
theorem rpart_idx {w : World} {A : Ar} (hA : A.Is w) (f n : Int) (hf : -9223372036854775808 ≤ f ∧ f ≤ 9223372036854775807) (hn : -9223372036854775808 ≤ n ∧ n ≤ 9223372036854775807) (hm : amE A.s A.a = 0) (hc : f < 0 ∨ n < 0 ∨ ltN A.s < f ∨ ltN A.s - f < n) :
    Calls Try.prog 44 #[A.v, .int .i64 f, .int .i64 n] w (MadeE w [] [] 13) := by
  obtain ⟨sa, sn, sc, aa, an, ac, s, a⟩ := A
  simp only [Ar.v] at hm hc ⊢
  obtain ⟨W, HW⟩ : ∃ z, Hid ((w.alloc (.cells #[.slice sa sn sc, .slice aa an ac] 45)).alloc (.cells #[.slice none 0 0, .slice none 0 0] 45) = z) := ⟨_, rfl⟩
  have h0 := ((Sp.start Non w).alloc 45 2 1 #[.slice sa sn sc, .slice aa an ac] rfl (by decide)).alloc 45 2 1 #[.slice none 0 0, .slice none 0 0] rfl (by decide)
  rw [HW.out] at h0
  have H0_ := h0
  try simp only [List.cons_append, List.nil_append, List.set_cons_zero, List.set_cons_succ, List.map_cons, List.map_nil, List.getD_cons_zero, List.getD_cons_succ, World.size_alloc] at H0_
  have H0 := Lib.hid H0_
  clear H0_
  have HI := Lib.hid hA
  have cm := rmay4_any (hA.below H0.out.belowN (Nat.le_refl _))
  simp only [Ar.v] at cm
  rw [decide_eq_true hm] at cm
  have CM := Lib.hid cm
  clear cm
  obtain ⟨hq1, hq2⟩ := amE_zero hm
  obtain ⟨m1, m2⟩ := lsdL_may hq1
  have hll := lsdL_len s
  have hco := lsdL_cons s
  have hl8 := (mayE_zero m1).2.1
  have hN0 : 0 ≤ ltN s := (mayE_zero m1).1 0
  obtain ⟨M, HMM⟩ : ∃ z, Hid (ltN s = z) := ⟨_, rfl⟩
  rw [HMM.out] at hc hN0
  obtain ⟨l, HLL⟩ : ∃ z, Hid (lsdL s = z) := ⟨_, rfl⟩
  rw [HLL.out] at hll hco hl8 m1
  rw [HMM.out] at hco
  have y0 := H0.out.cell (i := 0) rfl 0 _ rfl
  have y1 := H0.out.cell (i := 0) rfl 1 _ rfl
  have HCO := Lib.hid hco
  clear hA hm hq1 hq2 m1 m2 h0 hco
  go_enter Try.func44, Try.ntmps44
  go_wp2_with fail
  rw [HW.out]
  refine CM.out.mono ?_; rintro e w1 ⟨rfl, hb1⟩
  have H1_ := H0.out.via hb1
  try simp only [List.cons_append, List.nil_append, List.set_cons_zero, List.set_cons_succ, List.map_cons, List.map_nil, List.getD_cons_zero, List.getD_cons_succ, World.size_alloc] at H1_
  have H1 := Lib.hid H1_
  clear H1_
  clear hb1 y0 y1
  have y0 := H1.out.cell (i := 0) rfl 0 _ rfl
  have y1 := H1.out.cell (i := 0) rfl 1 _ rfl
  have CL := Lib.hid (rlisted_any (HI.out.below H1.out.belowN (Nat.le_refl _)))
  simp only [Ar.v] at CL
  go_wp2_with fail
  refine CL.out.mono ?_; rintro e w2 ⟨lo, ln, lc, P0, rfl, h2, himp⟩
  have h3 := H1.out.add h2
  have x0 := h3.cell (i := 0) rfl 0 _ rfl
  have x1 := h3.cell (i := 0) rfl 1 _ rfl
  have f0 := h3.frozen (i := 0) rfl 0
  have f1 := h3.frozen (i := 0) rfl 1
  have h4 := (h3.put (i := 0) rfl 0 (.slice lo ln lc)).put (i := 0) rfl 1 (.slice aa an ac)
  obtain ⟨W4, HW4⟩ : ∃ z, Hid ((w2.setCell ⟨w.heap.size, 0, none⟩ (.slice lo ln lc)).setCell ⟨w.heap.size, 1, none⟩ (.slice aa an ac) = z) := ⟨_, rfl⟩
  rw [HW4.out] at h4
  have H4_ := h4
  try simp only [List.cons_append, List.nil_append, List.set_cons_zero, List.set_cons_succ, List.map_cons, List.map_nil, List.getD_cons_zero, List.getD_cons_succ, World.size_alloc] at H4_
  have H4 := Lib.hid H4_
  clear H4_
  have HIMP := Lib.hid himp
  clear h2 h3 h4 himp y0 y1 H1 CL CM
  have LL : Hid (∀ w', Below W4.heap.size W4 w' → Ls w' lo ln lc l) := fun w' hb => by
    obtain ⟨F3, hF3, -⟩ := (H4.out.via hb).hole (i := 2) rfl
    have h := HIMP.out w' F3 (HI.out.below (H4.out.via hb).belowN (Nat.le_refl _)).shp hF3
    rwa [HLL.out] at h
  have LL4 := LL.out W4 (Below.refl _ _)
  have hlen := LL4.len
  obtain ⟨lb, loff, hlo, hcl⟩ := LL4.at (by omega)
  have s0 := hcl 0 (by omega)
  rw [HCO.out] at s0
  simp only [List.getD_cons_zero, Nat.add_zero] at s0
  subst hlo
  have hb : M ≤ 9223372036854775807 := by have := (LL4.rng 0).2; rw [HCO.out] at this; exact this
  have hl0 : (0 : Int) < ln := by omega
  clear LL4 hcl
  go_upto_region 4 with fail
  rw [HW4.out]
  clear x0 x1 f0 f1
  have y0 := H4.out.cell (i := 0) rfl 0 _ rfl
  have x0 := H4.out.cell (i := 1) rfl 0 _ rfl
  have x1 := H4.out.cell (i := 1) rfl 1 _ rfl
  have f0 := H4.out.frozen (i := 1) rfl 0
  have f1 := H4.out.frozen (i := 1) rfl 1
  have HF : Hid (∀ u v, MadeE w [] [] 13 (.returned (.tuple #[.agg #[.slice none 0 0, .slice none 0 0], .int .i64 13])) ((W4.setCell ⟨w.heap.size + 1, 0, none⟩ u).setCell ⟨w.heap.size + 1, 1, none⟩ v)) := fun u v =>
    made_nil 13 ((H4.out.put (i := 1) rfl 0 u).put (i := 1) rfl 1 v).belowN
  rcases (show f < 0 ∨ (0 ≤ f ∧ n < 0) ∨ (0 ≤ f ∧ 0 ≤ n ∧ M < f) ∨ (0 ≤ f ∧ 0 ≤ n ∧ f ≤ M ∧ M - f < n) by omega) with h1 | ⟨h1, h2⟩ | ⟨h1, h2, h3⟩ | ⟨h1, h2, h3, h4⟩
  · clear hc
    go_wp2
    exact bodyPost_ret (v := .tuple #[.agg #[.slice none 0 0, .slice none 0 0], .int .i64 13]) (by simp [results, Try.results44, go_sem, *]) rfl (HF.out _ _)
  · clear hc
    have h1' : ¬ f < 0 := by omega
    go_wp2
    exact bodyPost_ret (v := .tuple #[.agg #[.slice none 0 0, .slice none 0 0], .int .i64 13]) (by simp [results, Try.results44, go_sem, *]) rfl (HF.out _ _)
  · clear hc
    have h1' : ¬ f < 0 := by omega
    have h2' : ¬ n < 0 := by omega
    go_wp2
    exact bodyPost_ret (v := .tuple #[.agg #[.slice none 0 0, .slice none 0 0], .int .i64 13]) (by simp [results, Try.results44, go_sem, *]) rfl (HF.out _ _)
  · clear hc
    have h1' : ¬ f < 0 := by omega
    have h2' : ¬ n < 0 := by omega
    have h3' : ¬ M < f := by omega
    have z1 : IntKind.i64.wrap (M - f) = M - f := IntWalk.i64_in _ (by omega)
    go_wp2
    exact bodyPost_ret (v := .tuple #[.agg #[.slice none 0 0, .slice none 0 0], .int .i64 13]) (by simp [results, Try.results44, go_sem, *]) rfl (HF.out _ _)
set_option maxRecDepth 100000 in
set_option maxHeartbeats 3200000 in
theorem rpart_ok {w : World} {A : Ar} (hA : A.Is w) (f n : Int) (hm : amE A.s A.a = 0) (hc : 0 ≤ f ∧ 0 ≤ n ∧ f + n ≤ ltN A.s) :
    Calls Try.prog 44 #[A.v, .int .i64 f, .int .i64 n] w (MadeE w ((lsdL A.s).set 0 n) ((A.a.drop (f * ltK A.s).toNat).take (n * ltK A.s).toNat) 0) := by
  obtain ⟨sa, sn, sc, aa, an, ac, s, a⟩ := A
  simp only [Ar.v] at hm hc ⊢
  obtain ⟨W, HW⟩ : ∃ z, Hid ((w.alloc (.cells #[.slice sa sn sc, .slice aa an ac] 45)).alloc (.cells #[.slice none 0 0, .slice none 0 0] 45) = z) := ⟨_, rfl⟩
  have h0 := ((Sp.start Non w).alloc 45 2 1 #[.slice sa sn sc, .slice aa an ac] rfl (by decide)).alloc 45 2 1 #[.slice none 0 0, .slice none 0 0] rfl (by decide)
  rw [HW.out] at h0
  have H0_ := h0
  try simp only [List.cons_append, List.nil_append, List.set_cons_zero, List.set_cons_succ, List.map_cons, List.map_nil, List.getD_cons_zero, List.getD_cons_succ, World.size_alloc] at H0_
  have H0 := Lib.hid H0_
  clear H0_
  have HI := Lib.hid hA
  have cm := rmay4_any (hA.below H0.out.belowN (Nat.le_refl _))
  simp only [Ar.v] at cm
  rw [decide_eq_true hm] at cm
  have CM := Lib.hid cm
  clear cm
  obtain ⟨hq1, hq2⟩ := amE_zero hm
  obtain ⟨m1, m2⟩ := lsdL_may hq1
  have hll := lsdL_len s
  have hco := lsdL_cons s
  have hl8 := (mayE_zero m1).2.1
  have hN0 : 0 ≤ ltN s := (mayE_zero m1).1 0
  obtain ⟨M, HMM⟩ : ∃ z, Hid (ltN s = z) := ⟨_, rfl⟩
  obtain ⟨K, HKK⟩ : ∃ z, Hid (ltK s = z) := ⟨_, rfl⟩
  have hkm : mayE ((lsdL s).drop 1) = 0 := (mayE_app (s := [ltN s]) (t := (lsdL s).drop 1) (by rw [List.singleton_append, ← hco]; exact m1)).2
  have hK0 := pr_nonneg hkm
  have hpr : ltN s * ltK s = (an : Int) := by
    have e : pr (lsdL s) = ltN s * ltK s := by rw [hco, pr_cons]; rfl
    have hal : a.length = an := hA.ats.len
    rw [← e, m2, hq2, hal]
  have hKd : ltK s = pr ((lsdL s).drop 1) := rfl
  rw [← hKd] at hK0
  rw [HKK.out] at hK0 hpr ⊢
  rw [HMM.out] at hpr
  rw [HMM.out] at hc hN0
  obtain ⟨l, HLL⟩ : ∃ z, Hid (lsdL s = z) := ⟨_, rfl⟩
  rw [HLL.out] at hll hco hl8 m1
  rw [HLL.out] at hkm hKd ⊢
  rw [HKK.out] at hKd
  have HKM := Lib.hid hkm
  have HKD := Lib.hid hKd
  rw [HMM.out] at hco
  have y0 := H0.out.cell (i := 0) rfl 0 _ rfl
  have y1 := H0.out.cell (i := 0) rfl 1 _ rfl
  have HCO := Lib.hid hco
  clear hA hm hq1 hq2 m1 m2 h0 hco
  clear hkm hKd
  go_enter Try.func44, Try.ntmps44
  go_wp2_with fail
  rw [HW.out]
  refine CM.out.mono ?_; rintro e w1 ⟨rfl, hb1⟩
  have H1_ := H0.out.via hb1
  try simp only [List.cons_append, List.nil_append, List.set_cons_zero, List.set_cons_succ, List.map_cons, List.map_nil, List.getD_cons_zero, List.getD_cons_succ, World.size_alloc] at H1_
  have H1 := Lib.hid H1_
  clear H1_
  clear hb1 y0 y1
  have y0 := H1.out.cell (i := 0) rfl 0 _ rfl
  have y1 := H1.out.cell (i := 0) rfl 1 _ rfl
  have CL := Lib.hid (rlisted_any (HI.out.below H1.out.belowN (Nat.le_refl _)))
  simp only [Ar.v] at CL
  go_wp2_with fail
  refine CL.out.mono ?_; rintro e w2 ⟨lo, ln, lc, P0, rfl, h2, himp⟩
  have h3 := H1.out.add h2
  have x0 := h3.cell (i := 0) rfl 0 _ rfl
  have x1 := h3.cell (i := 0) rfl 1 _ rfl
  have f0 := h3.frozen (i := 0) rfl 0
  have f1 := h3.frozen (i := 0) rfl 1
  have h4 := (h3.put (i := 0) rfl 0 (.slice lo ln lc)).put (i := 0) rfl 1 (.slice aa an ac)
  obtain ⟨W4, HW4⟩ : ∃ z, Hid ((w2.setCell ⟨w.heap.size, 0, none⟩ (.slice lo ln lc)).setCell ⟨w.heap.size, 1, none⟩ (.slice aa an ac) = z) := ⟨_, rfl⟩
  rw [HW4.out] at h4
  have H4_ := h4
  try simp only [List.cons_append, List.nil_append, List.set_cons_zero, List.set_cons_succ, List.map_cons, List.map_nil, List.getD_cons_zero, List.getD_cons_succ, World.size_alloc] at H4_
  have H4 := Lib.hid H4_
  clear H4_
  have HIMP := Lib.hid himp
  clear h2 h3 h4 himp y0 y1 H1 CL CM
  have LL : Hid (∀ w', Below W4.heap.size W4 w' → Ls w' lo ln lc l) := fun w' hb => by
    obtain ⟨F3, hF3, -⟩ := (H4.out.via hb).hole (i := 2) rfl
    have h := HIMP.out w' F3 (HI.out.below (H4.out.via hb).belowN (Nat.le_refl _)).shp hF3
    rwa [HLL.out] at h
  have LL4 := LL.out W4 (Below.refl _ _)
  have hlen := LL4.len
  obtain ⟨lb, loff, hlo, hcl⟩ := LL4.at (by omega)
  have s0 := hcl 0 (by omega)
  rw [HCO.out] at s0
  simp only [List.getD_cons_zero, Nat.add_zero] at s0
  subst hlo
  have hb : M ≤ 9223372036854775807 := by have := (LL4.rng 0).2; rw [HCO.out] at this; exact this
  have hl0 : (0 : Int) < ln := by omega
  clear LL4 hcl
  go_upto_region 4 with fail
  rw [HW4.out]
  clear x0 x1 f0 f1
  have y0 := H4.out.cell (i := 0) rfl 0 _ rfl
  have HRS : Hid (∀ i, -9223372036854775808 ≤ (l.set 0 n).getD i 0 ∧ (l.set 0 n).getD i 0 ≤ 9223372036854775807) := fun i => by
    have h := (LL.out W4 (Below.refl _ _)).rng i
    simp only [List.getD, List.getElem?_set] at h ⊢
    split
    · split
      · simp; omega
      · simp
    · exact h
  have h1' : ¬ f < 0 := by omega
  have h2' : ¬ n < 0 := by omega
  have h3' : ¬ M < f := by omega
  have h4' : ¬ M - f < n := by omega
  have z1 : IntKind.i64.wrap (M - f) = M - f := IntWalk.i64_in _ (by omega)
  obtain ⟨i0, hi0, hza, hzb, hzc⟩ := info_parts (P := Try.prog) (e := 3) (z := .int .i64 0) (size := 1) (bytes := 8) (by kernel_rfl)
  have HI0 := Lib.hid (And.intro hi0 (And.intro hza (And.intro hzb hzc)))
  obtain ⟨j0, hj0, hja, hjb, hjc⟩ := info_parts (P := Try.prog) (e := 2) (z := .int .i64 0) (size := 1) (bytes := 8) (by kernel_rfl)
  have HJ0 := Lib.hid (And.intro hj0 (And.intro hja (And.intro hjb hjc)))
  clear hi0 hza hzb hzc hj0 hja hjb hjc
  have HX : Hid (f * K = ((f * K).toNat : Int) ∧ n * K = ((n * K).toNat : Int) ∧ (f * K).toNat + (n * K).toNat ≤ an) := by
    have e1 : 0 ≤ f * K := Int.mul_nonneg (by omega) hK0.1
    have e2 : 0 ≤ n * K := Int.mul_nonneg (by omega) hK0.1
    have e3 : (f + n) * K ≤ M * K := Int.mul_le_mul_of_nonneg_right (by omega) hK0.1
    rw [Int.add_mul] at e3
    exact ⟨by omega, by omega, by omega⟩
  obtain ⟨p, HP⟩ : ∃ z, Hid ((f * K).toNat = z) := ⟨_, rfl⟩
  obtain ⟨m, HM⟩ : ∃ z, Hid ((n * K).toNat = z) := ⟨_, rfl⟩
  rw [HP.out, HM.out] at HX
  have hx1 := HX.out.1
  have hx3 : (f + n) * K = p + m := by rw [Int.add_mul, HX.out.1, HX.out.2.1]
  have hx2 := HX.out.2.2
  have hac := HI.out.ats.cap
  have htop := HI.out.ats.top
  have hbg := HI.out.ats.big
  simp only at hac htop hbg
  unfold maxLen at htop
  have z6 : IntKind.i64.wrap (f * K) = p := by rw [hx1]; exact IntWalk.i64_in _ (by omega)
  have z7 : IntKind.i64.wrap ((f + n) * K) = p + m := by rw [hx3]; exact IntWalk.i64_in _ (by omega)
  have z8 : IntKind.i64.wrap (f + n) = f + n := IntWalk.i64_in _ (by omega)
  have hb64 : (0 + m) * 8 ≤ 140737488351232 := by omega
  clear hx1 hx3 hbg
  have H5_ := (H4.out.intsNew (E := 3) (zs := []) (World.ownsRow_nil _ _ _ _) (Below.refl _ _) (by omega) (fun i => by simp [List.getD])).intsNew (E := 2) (zs := []) (World.ownsRow_nil _ _ _ _) (Below.refl _ _) (by omega) (fun i => by simp [List.getD])
  try simp only [List.cons_append, List.nil_append, List.set_cons_zero, List.set_cons_succ, List.map_cons, List.map_nil, List.getD_cons_zero, List.getD_cons_succ, World.size_alloc] at H5_
  have H5 := Lib.hid H5_
  clear H5_
  have LL5 := Lib.hid (LL.out W4 (Below.refl _ _))
  have hb1 : (0 + ln) * 8 ≤ 140737488351232 := by omega
  clear hc H4
  go_wp2_with (at_builtin; refine Sp.wpList_loc (i := 3) H5.out rfl _ _ 25 rfl 3 i0 Try.underlying25 HI0.out.1 HI0.out.2.1 HI0.out.2.2.1 HI0.out.2.2.2 rfl rfl rfl LL5.out hb1 ?_)
  intro bo bd w5 h5
  have h6 := h5.toRow (i := 3) rfl
  obtain ⟨c1', c2', c3', c4', c5'⟩ := h6.rcap (i := 3) rfl
  obtain ⟨g, rfl⟩ := c5' (by omega)
  have t0 := h6.cell (i := 3) rfl 0 (.int .i64 M) (by rw [HCO.out]; rfl)
  have t1 := h6.frozen (i := 3) rfl 0
  have h7 := (h6.put (i := 3) rfl 0 (.int .i64 n)).toInts (i := 3) (zs := l.set 0 n) (by rw [HCO.out]; rfl) (by omega) HRS.out
  obtain ⟨W7, HW7⟩ : ∃ z, Hid (w5.setCell ⟨g, 0, none⟩ (.int .i64 n) = z) := ⟨_, rfl⟩
  rw [HW7.out] at h7
  have H7_ := h7
  try simp only [List.cons_append, List.nil_append, List.set_cons_zero, List.set_cons_succ, List.map_cons, List.map_nil, List.getD_cons_zero, List.getD_cons_succ, World.size_alloc] at H7_
  have H7 := Lib.hid H7_
  clear H7_
  have hcut1 : Ls W7 (if bd = 1 then some ⟨g, 0, none⟩ else (some (⟨g, 0, none⟩ : Addr)).map fun x => x.add 1) (ln - 1) (bd - 1) (l.drop 1) := by
    have h := (H7.out.ls (i := 3) rfl).cutI 1 (ln - 1) (by omega)
    rw [List.take_of_length_le (by rw [List.length_drop, List.length_set]; omega), List.drop_set_of_lt (by omega)] at h
    exact h
  have HC1 := Lib.hid hcut1
  have CK : Hid (∀ (ao : Option Addr) (c : Nat), Ls W7 ao (ln - 1) c (l.drop 1) → Calls Try.prog 74 #[.slice ao (ln - 1) c] W7 (RetS W7 (.int .i64 K))) := fun ao c h => by rw [HKD.out]; exact rcount_any h HKM.out
  have y0 := H7.out.cell (i := 0) rfl 1 _ rfl
  have hbd : ln ≤ bd := (H7.out.ls (i := 3) rfl).cap
  clear h5 h6 h7 H5 LL5 hb1 hcut1 c1' c2' c3' c4' c5'
  go_upto_region 9 with fail
  rw [HW7.out]
  clear t0 t1
  by_cases hlc : bd = 1
  · subst hlc
    obtain rfl : ln = 1 := by omega
    have C1 : Calls Try.prog 74 #[.slice (some ⟨g, 0, none⟩) 0 0] W7 (RetS W7 (.int .i64 K)) := CK.out (some ⟨g, 0, none⟩) 0 (by have h := HC1.out; split at h <;> first | exact h | (exfalso; omega))
    clear CK HC1
    by_cases hpc : ac = p
    · subst hpc
      obtain rfl : m = 0 := by omega
      have CC2 : Hid (∀ wx, Below w.heap.size w wx → Ls wx (aa) 0 (0) ((a.drop (f * K).toNat).take (n * K).toNat)) := fun wx hb => by
        rw [HM.out, List.take_zero]; exact Ls.zero _ _ (Nat.zero_le _)
      have LA := Lib.hid (CC2.out _ H7.out.belowN)
      have hb64' := hb64
      go_wp2_with fail
      refine C1.mono ?_; rintro e w8 ⟨rfl, hw⟩
      have hw' := hw.symm
      subst hw'
      clear C1 hw
      go_wp2_with (at_builtin; refine Sp.wpList_loc (i := 4) H7.out rfl _ _ 28 rfl 2 j0 Try.underlying28 HJ0.out.1 HJ0.out.2.1 HJ0.out.2.2.1 HJ0.out.2.2.2 rfl rfl rfl LA.out hb64' ?_)
      intro ao5 c5 w9 h4
      have x0 := h4.cell (i := 1) rfl 0 _ rfl
      have x1 := h4.cell (i := 1) rfl 1 _ rfl
      have f0 := h4.frozen (i := 1) rfl 0
      have f1 := h4.frozen (i := 1) rfl 1
      have HF : Hid (∀ u v, MadeE w (l.set 0 n) ((a.drop (f * K).toNat).take (n * K).toNat) 0 (.returned (.tuple #[.agg #[.slice (some ⟨g, 0, none⟩) 1 _, .slice ao5 0 c5], .int .i64 0])) ((w9.setCell ⟨w.heap.size + 1, 0, none⟩ u).setCell ⟨w.heap.size + 1, 1, none⟩ v)) := fun u v => by
        have h5 := ((h4.put (i := 1) rfl 0 u).put (i := 1) rfl 1 v).arrOf (i := 3) (j := 4) rfl (by decide) rfl
        exact h5.madeE (i := 4) rfl 0
      clear h4 LA CC2
      go_wp2
      exact bodyPost_ret (v := .tuple #[.agg #[.slice (some ⟨g, 0, none⟩) 1 _, .slice ao5 0 c5], .int .i64 0]) (by simp [results, Try.results44, go_sem, *]) rfl (HF.out _ _)
    · have hpc' : p < ac := by omega
      have z9 : (p : Int) < ac := by omega
      have CC2 : Hid (∀ wx, Below w.heap.size w wx → Ls wx (aa.map fun x => x.add p) m (ac - p) ((a.drop (f * K).toNat).take (n * K).toNat)) := fun wx hb => by
        rw [HP.out, HM.out]; exact (HI.out.ats.cutA p m hx2).below hb (Nat.le_refl _)
      have LA : Hid (Ls W7 (aa.map fun x => x.add p) (p + m - p) (ac - p) ((a.drop (f * K).toNat).take (n * K).toNat)) := by show Ls _ _ _ _ _; rw [Nat.add_sub_cancel_left]; exact CC2.out _ H7.out.belowN
      have hb64' : (0 + (p + m - p)) * 8 ≤ 140737488351232 := by omega
      go_wp2_with fail
      refine C1.mono ?_; rintro e w8 ⟨rfl, hw⟩
      have hw' := hw.symm
      subst hw'
      clear C1 hw
      go_wp2_with (at_builtin; refine Sp.wpList_loc (i := 4) H7.out rfl _ _ 28 rfl 2 j0 Try.underlying28 HJ0.out.1 HJ0.out.2.1 HJ0.out.2.2.1 HJ0.out.2.2.2 rfl rfl rfl LA.out hb64' ?_)
      intro ao5 c5 w9 h4
      have x0 := h4.cell (i := 1) rfl 0 _ rfl
      have x1 := h4.cell (i := 1) rfl 1 _ rfl
      have f0 := h4.frozen (i := 1) rfl 0
      have f1 := h4.frozen (i := 1) rfl 1
      have HF : Hid (∀ u v, MadeE w (l.set 0 n) ((a.drop (f * K).toNat).take (n * K).toNat) 0 (.returned (.tuple #[.agg #[.slice (some ⟨g, 0, none⟩) 1 _, .slice ao5 m c5], .int .i64 0])) ((w9.setCell ⟨w.heap.size + 1, 0, none⟩ u).setCell ⟨w.heap.size + 1, 1, none⟩ v)) := fun u v => by
        have h5 := ((h4.put (i := 1) rfl 0 u).put (i := 1) rfl 1 v).arrOf (i := 3) (j := 4) rfl (by decide) rfl
        exact h5.madeE (i := 4) rfl 0
      clear h4 LA CC2
      go_wp2
      exact bodyPost_ret (v := .tuple #[.agg #[.slice (some ⟨g, 0, none⟩) 1 _, .slice ao5 m c5], .int .i64 0]) (by simp [results, Try.results44, go_sem, *]) rfl (HF.out _ _)
  · have hlc' := hlc
    have C1 : Calls Try.prog 74 #[.slice (some ⟨g, 1, none⟩) (ln - 1) (bd - 1)] W7 (RetS W7 (.int .i64 K)) := CK.out (some ⟨g, 1, none⟩) (bd - 1) (by have h := HC1.out; split at h <;> first | exact h | (exfalso; omega))
    clear CK HC1
    by_cases hpc : ac = p
    · subst hpc
      obtain rfl : m = 0 := by omega
      have CC2 : Hid (∀ wx, Below w.heap.size w wx → Ls wx (aa) 0 (0) ((a.drop (f * K).toNat).take (n * K).toNat)) := fun wx hb => by
        rw [HM.out, List.take_zero]; exact Ls.zero _ _ (Nat.zero_le _)
      have LA := Lib.hid (CC2.out _ H7.out.belowN)
      have hb64' := hb64
      go_wp2_with fail
      refine C1.mono ?_; rintro e w8 ⟨rfl, hw⟩
      have hw' := hw.symm
      subst hw'
      clear C1 hw
      go_wp2_with (at_builtin; refine Sp.wpList_loc (i := 4) H7.out rfl _ _ 28 rfl 2 j0 Try.underlying28 HJ0.out.1 HJ0.out.2.1 HJ0.out.2.2.1 HJ0.out.2.2.2 rfl rfl rfl LA.out hb64' ?_)
      intro ao5 c5 w9 h4
      have x0 := h4.cell (i := 1) rfl 0 _ rfl
      have x1 := h4.cell (i := 1) rfl 1 _ rfl
      have f0 := h4.frozen (i := 1) rfl 0
      have f1 := h4.frozen (i := 1) rfl 1
      have HF : Hid (∀ u v, MadeE w (l.set 0 n) ((a.drop (f * K).toNat).take (n * K).toNat) 0 (.returned (.tuple #[.agg #[.slice (some ⟨g, 0, none⟩) ln _, .slice ao5 0 c5], .int .i64 0])) ((w9.setCell ⟨w.heap.size + 1, 0, none⟩ u).setCell ⟨w.heap.size + 1, 1, none⟩ v)) := fun u v => by
        have h5 := ((h4.put (i := 1) rfl 0 u).put (i := 1) rfl 1 v).arrOf (i := 3) (j := 4) rfl (by decide) rfl
        exact h5.madeE (i := 4) rfl 0
      clear h4 LA CC2
      go_wp2
      exact bodyPost_ret (v := .tuple #[.agg #[.slice (some ⟨g, 0, none⟩) ln _, .slice ao5 0 c5], .int .i64 0]) (by simp [results, Try.results44, go_sem, *]) rfl (HF.out _ _)
    · have hpc' : p < ac := by omega
      have z9 : (p : Int) < ac := by omega
      have CC2 : Hid (∀ wx, Below w.heap.size w wx → Ls wx (aa.map fun x => x.add p) m (ac - p) ((a.drop (f * K).toNat).take (n * K).toNat)) := fun wx hb => by
        rw [HP.out, HM.out]; exact (HI.out.ats.cutA p m hx2).below hb (Nat.le_refl _)
      have LA : Hid (Ls W7 (aa.map fun x => x.add p) (p + m - p) (ac - p) ((a.drop (f * K).toNat).take (n * K).toNat)) := by show Ls _ _ _ _ _; rw [Nat.add_sub_cancel_left]; exact CC2.out _ H7.out.belowN
      have hb64' : (0 + (p + m - p)) * 8 ≤ 140737488351232 := by omega
      go_wp2_with fail
      refine C1.mono ?_; rintro e w8 ⟨rfl, hw⟩
      have hw' := hw.symm
      subst hw'
      clear C1 hw
      go_wp2_with (at_builtin; refine Sp.wpList_loc (i := 4) H7.out rfl _ _ 28 rfl 2 j0 Try.underlying28 HJ0.out.1 HJ0.out.2.1 HJ0.out.2.2.1 HJ0.out.2.2.2 rfl rfl rfl LA.out hb64' ?_)
      intro ao5 c5 w9 h4
      have x0 := h4.cell (i := 1) rfl 0 _ rfl
      have x1 := h4.cell (i := 1) rfl 1 _ rfl
      have f0 := h4.frozen (i := 1) rfl 0
      have f1 := h4.frozen (i := 1) rfl 1
      have HF : Hid (∀ u v, MadeE w (l.set 0 n) ((a.drop (f * K).toNat).take (n * K).toNat) 0 (.returned (.tuple #[.agg #[.slice (some ⟨g, 0, none⟩) ln _, .slice ao5 m c5], .int .i64 0])) ((w9.setCell ⟨w.heap.size + 1, 0, none⟩ u).setCell ⟨w.heap.size + 1, 1, none⟩ v)) := fun u v => by
        have h5 := ((h4.put (i := 1) rfl 0 u).put (i := 1) rfl 1 v).arrOf (i := 3) (j := 4) rfl (by decide) rfl
        exact h5.madeE (i := 4) rfl 0
      clear h4 LA CC2
      go_wp2
      exact bodyPost_ret (v := .tuple #[.agg #[.slice (some ⟨g, 0, none⟩) ln _, .slice ao5 m c5], .int .i64 0]) (by simp [results, Try.results44, go_sem, *]) rfl (HF.out _ _)
theorem rpart_any {w : World} {A : Ar} (hA : A.Is w) (f n : Int) (hf : -9223372036854775808 ≤ f ∧ f ≤ 9223372036854775807) (hn : -9223372036854775808 ≤ n ∧ n ≤ 9223372036854775807) :
    Calls Try.prog 44 #[A.v, .int .i64 f, .int .i64 n] w (MadeE w (ptS A.s A.a f n) (ptA A.s A.a f n) (ptE A.s A.a f n)) := by
  by_cases hm : amE A.s A.a = 0
  · by_cases hc : f < 0 ∨ n < 0 ∨ ltN A.s < f ∨ ltN A.s - f < n
    · have e : ptE A.s A.a f n = 13 := by unfold ptE; rw [if_pos hm, if_pos hc]
      have h := rpart_idx hA f n hf hn hm hc
      rw [ptS, ptA, e, if_neg (by decide), if_neg (by decide)]
      exact h
    · have e : ptE A.s A.a f n = 0 := by unfold ptE; rw [if_pos hm, if_neg hc]
      have h := rpart_ok hA f n hm (by omega)
      rw [ptS, ptA, e, if_pos rfl, if_pos rfl]
      exact h
  · have e : ptE A.s A.a f n = 1 := by unfold ptE; rw [if_neg hm]
    have h := rpart_bad hA f n hm
    rw [ptS, ptA, e, if_neg (by decide), if_neg (by decide)]
    exact h
end Go.Proofs.Ythackmkdicpdeaa

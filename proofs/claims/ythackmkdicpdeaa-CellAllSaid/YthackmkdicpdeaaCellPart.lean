/- Contract of cell.Part. Contract of cell.Pieces. -/
import Derived.Test.YthackmkdicpdeaaCellMake
import Derived.Test.YthackmkdicpdeaaSep3
import Derived.Deep.CutRange
namespace Go.Proofs.Ythackmkdicpdeaa
open Go.RowKit Go.Lib
set_option linter.unusedVariables false
set_option linter.unusedSimpArgs false
attribute [local go_sem] alloc_drewN setCell_drewN
/-- How many items; how many atoms each; the error, the lengths and the atoms of a part. -/
def ltN (s : List Int) : Int := (lsdL s).getD 0 0
def ltK (s : List Int) : Int := pr ((lsdL s).drop 1)
def ptE (s a : List Int) (f n : Int) : Int := if amE s a = 0 then if f < 0 ∨ n < 0 ∨ ltN s < f ∨ ltN s - f < n then 13 else 0 else 1
def ptS (s a : List Int) (f n : Int) : List Int := if ptE s a f n = 0 then (lsdL s).set 0 n else []
def ptA (s a : List Int) (f n : Int) : List Int := if ptE s a f n = 0 then (a.drop (f * ltK s).toNat).take (n * ltK s).toNat else []
theorem lsdL_len (s : List Int) : 1 ≤ (lsdL s).length := by
  unfold lsdL
  split
  · simp
  · omega
theorem lsdL_may {s : List Int} (h : mayE s = 0) : mayE (lsdL s) = 0 ∧ pr (lsdL s) = pr s := by
  unfold lsdL
  split
  · rename_i h0
    have := List.eq_nil_of_length_eq_zero h0
    subst this
    exact ⟨by decide, rfl⟩
  · exact ⟨h, rfl⟩
theorem lsdL_cons (s : List Int) : lsdL s = ltN s :: (lsdL s).drop 1 := by
  have := lsdL_len s
  unfold ltN
  cases h : lsdL s with
  | nil => rw [h] at this; simp at this
  | cons x r => rfl
/-- A list cut from a place on, as the model cuts it. -/
theorem Ls.cutI {w : World} {ao : Option Addr} {n c : Nat} {zs : List Int} (h : Ls w ao n c zs) (l k : Nat) (hk : l + k ≤ n) :
    Ls w (if c = l then ao else ao.map fun x => x.add l) k (c - l) ((zs.drop l).take k) := by
  split
  · rename_i e
    have h1 := h.cap
    obtain rfl : k = 0 := by omega
    rw [List.take_zero]
    exact Ls.zero _ _ (by have := h.top; omega)
  · exact h.cutA l k hk
set_option maxHeartbeats 1600000 in
theorem part_bad {w : World} {A : Ar} (hA : A.Is w) (f n : Int) (hm : amE A.s A.a ≠ 0) : Calls Try.prog 22 #[A.v, .int .i64 f, .int .i64 n] w (MadeE w [] [] 1) := by
  obtain ⟨sa, sn, sc, aa, an, ac, s, a⟩ := A
  simp only [Ar.v] at hm ⊢
  obtain ⟨W, HW⟩ : ∃ z, Hid ((w.alloc (.cells #[.slice sa sn sc, .slice aa an ac] 45)).alloc (.cells #[.slice none 0 0, .slice none 0 0] 45) = z) := ⟨_, rfl⟩
  have h0 := ((Sp.start Non w).alloc 45 2 1 #[.slice sa sn sc, .slice aa an ac] rfl (by decide)).alloc 45 2 1 #[.slice none 0 0, .slice none 0 0] rfl (by decide)
  rw [HW.out] at h0
  have H0_ := h0
  try simp only [List.cons_append, List.nil_append, List.set_cons_zero, List.set_cons_succ, List.map_cons, List.map_nil, List.getD_cons_zero, List.getD_cons_succ, World.size_alloc] at H0_
  have H0 := Lib.hid H0_
  clear H0_
  have CM := Lib.hid (arrmay_any (hA.below H0.out.belowN (Nat.le_refl _)))
  simp only [Ar.v] at CM
  obtain ⟨m, hmm⟩ : ∃ m, m = amE s a := ⟨_, rfl⟩
  rw [← hmm] at CM hm
  have q0 : (m != 0) = true := by simpa using hm
  have y0 := H0.out.cell (i := 0) rfl 0 _ rfl
  have y1 := H0.out.cell (i := 0) rfl 1 _ rfl
  clear hA hm hmm h0
  go_enter Try.func22, Try.ntmps22
  go_wp2_with fail
  rw [HW.out]
  refine CM.out.mono ?_; rintro e w1 ⟨rfl, hb1⟩
  have H1_ := H0.out.via hb1
  try simp only [List.cons_append, List.nil_append, List.set_cons_zero, List.set_cons_succ, List.map_cons, List.map_nil, List.getD_cons_zero, List.getD_cons_succ, World.size_alloc] at H1_
  have H1 := Lib.hid H1_
  clear H1_
  have x0 := H1.out.cell (i := 1) rfl 0 _ rfl
  have x1 := H1.out.cell (i := 1) rfl 1 _ rfl
  have f0 := H1.out.frozen (i := 1) rfl 0
  have f1 := H1.out.frozen (i := 1) rfl 1
  have HF : Hid (∀ u v, MadeE w [] [] 1 (.returned (.tuple #[.agg #[.slice none 0 0, .slice none 0 0], .int .i64 1])) ((w1.setCell ⟨w.heap.size + 1, 0, none⟩ u).setCell ⟨w.heap.size + 1, 1, none⟩ v)) := fun u v =>
    made_nil 1 ((H1.out.put (i := 1) rfl 0 u).put (i := 1) rfl 1 v).belowN
  clear hb1 y0 y1
  go_wp2
  exact bodyPost_ret (v := .tuple #[.agg #[.slice none 0 0, .slice none 0 0], .int .i64 1]) (by simp [results, Try.results22, go_sem, *]) rfl (HF.out _ _)
set_option maxRecDepth 100000 in
set_option maxHeartbeats 3200000 in
theorem part_idx {w : World} {A : Ar} (hA : A.Is w) (f n : Int) (hf : -9223372036854775808 ≤ f ∧ f ≤ 9223372036854775807) (hn : -9223372036854775808 ≤ n ∧ n ≤ 9223372036854775807) (hm : amE A.s A.a = 0) (hc : f < 0 ∨ n < 0 ∨ ltN A.s < f ∨ ltN A.s - f < n) :
    Calls Try.prog 22 #[A.v, .int .i64 f, .int .i64 n] w (MadeE w [] [] 13) := by
  obtain ⟨sa, sn, sc, aa, an, ac, s, a⟩ := A
  simp only [Ar.v] at hm hc ⊢
  obtain ⟨W, HW⟩ : ∃ z, Hid ((w.alloc (.cells #[.slice sa sn sc, .slice aa an ac] 45)).alloc (.cells #[.slice none 0 0, .slice none 0 0] 45) = z) := ⟨_, rfl⟩
  have h0 := ((Sp.start Non w).alloc 45 2 1 #[.slice sa sn sc, .slice aa an ac] rfl (by decide)).alloc 45 2 1 #[.slice none 0 0, .slice none 0 0] rfl (by decide)
  rw [HW.out] at h0
  have H0_ := h0
  try simp only [List.cons_append, List.nil_append, List.set_cons_zero, List.set_cons_succ, List.map_cons, List.map_nil, List.getD_cons_zero, List.getD_cons_succ, World.size_alloc] at H0_
  have H0 := Lib.hid H0_
  clear H0_
  have HI := Lib.hid hA
  have CM := Lib.hid (arrmay_any (hA.below H0.out.belowN (Nat.le_refl _)))
  simp only [Ar.v] at CM
  obtain ⟨hq1, hq2⟩ := amE_zero hm
  rw [hm] at CM
  obtain ⟨m1, m2⟩ := lsdL_may hq1
  have hll := lsdL_len s
  have hco := lsdL_cons s
  have hl8 := (mayE_zero m1).2.1
  have hN0 : 0 ≤ ltN s := (mayE_zero m1).1 0
  obtain ⟨M, HMM⟩ : ∃ z, Hid (ltN s = z) := ⟨_, rfl⟩
  rw [HMM.out] at hc hN0
  obtain ⟨l, HLL⟩ : ∃ z, Hid (lsdL s = z) := ⟨_, rfl⟩
  rw [HLL.out] at hll hco hl8 m1
  rw [HMM.out] at hco
  have y0 := H0.out.cell (i := 0) rfl 0 _ rfl
  have y1 := H0.out.cell (i := 0) rfl 1 _ rfl
  have HCO := Lib.hid hco
  clear hA hm hq1 hq2 m1 m2 h0 hco
  go_enter Try.func22, Try.ntmps22
  go_wp2_with fail
  rw [HW.out]
  refine CM.out.mono ?_; rintro e w1 ⟨rfl, hb1⟩
  have H1_ := H0.out.via hb1
  try simp only [List.cons_append, List.nil_append, List.set_cons_zero, List.set_cons_succ, List.map_cons, List.map_nil, List.getD_cons_zero, List.getD_cons_succ, World.size_alloc] at H1_
  have H1 := Lib.hid H1_
  clear H1_
  clear hb1 y0 y1
  have y0 := H1.out.cell (i := 0) rfl 0 _ rfl
  have y1 := H1.out.cell (i := 0) rfl 1 _ rfl
  have CL := Lib.hid (listed_any (HI.out.below H1.out.belowN (Nat.le_refl _)))
  simp only [Ar.v] at CL
  rw [HLL.out] at CL
  go_wp2_with fail
  refine CL.out.mono ?_; rintro e w2 ⟨lo, ln, lc, rfl, hL2, hO2, hb2⟩
  have hlen := hL2.len
  have hcap := hL2.cap
  have H2_ := (H1.out.intsNew hO2 hb2 hL2.big hL2.rng).toRow (i := 2) rfl
  try simp only [List.cons_append, List.nil_append, List.set_cons_zero, List.set_cons_succ, List.map_cons, List.map_nil, List.getD_cons_zero, List.getD_cons_succ, World.size_alloc] at H2_
  have H2 := Lib.hid H2_
  clear H2_
  obtain ⟨g, rfl⟩ := (H2.out.rcap (i := 2) rfl).2.2.2.2 (by omega)
  have hb : M ≤ 9223372036854775807 := by have := (hL2.rng 0).2; rw [HCO.out] at this; exact this
  clear hL2 hO2 hb2 y0 y1
  have s0 := H2.out.cell (i := 2) rfl 0 (.int .i64 M) (by rw [HCO.out]; rfl)
  have x0 := H2.out.cell (i := 1) rfl 0 _ rfl
  have x1 := H2.out.cell (i := 1) rfl 1 _ rfl
  have f0 := H2.out.frozen (i := 1) rfl 0
  have f1 := H2.out.frozen (i := 1) rfl 1
  have hl0 : (0 : Int) < ln := by omega
  have HF : Hid (∀ u v, MadeE w [] [] 13 (.returned (.tuple #[.agg #[.slice none 0 0, .slice none 0 0], .int .i64 13])) ((w2.setCell ⟨w.heap.size + 1, 0, none⟩ u).setCell ⟨w.heap.size + 1, 1, none⟩ v)) := fun u v =>
    made_nil 13 ((H2.out.put (i := 1) rfl 0 u).put (i := 1) rfl 1 v).belowN
  rcases (show f < 0 ∨ (0 ≤ f ∧ n < 0) ∨ (0 ≤ f ∧ 0 ≤ n ∧ M < f) ∨ (0 ≤ f ∧ 0 ≤ n ∧ f ≤ M ∧ M - f < n) by omega) with h1 | ⟨h1, h2⟩ | ⟨h1, h2, h3⟩ | ⟨h1, h2, h3, h4⟩
  · clear hc
    go_wp2
    exact bodyPost_ret (v := .tuple #[.agg #[.slice none 0 0, .slice none 0 0], .int .i64 13]) (by simp [results, Try.results22, go_sem, *]) rfl (HF.out _ _)
  · clear hc
    have h1' : ¬ f < 0 := by omega
    go_wp2
    exact bodyPost_ret (v := .tuple #[.agg #[.slice none 0 0, .slice none 0 0], .int .i64 13]) (by simp [results, Try.results22, go_sem, *]) rfl (HF.out _ _)
  · clear hc
    have h1' : ¬ f < 0 := by omega
    have h2' : ¬ n < 0 := by omega
    go_wp2
    exact bodyPost_ret (v := .tuple #[.agg #[.slice none 0 0, .slice none 0 0], .int .i64 13]) (by simp [results, Try.results22, go_sem, *]) rfl (HF.out _ _)
  · clear hc
    have h1' : ¬ f < 0 := by omega
    have h2' : ¬ n < 0 := by omega
    have h3' : ¬ M < f := by omega
    have z1 : IntKind.i64.wrap (M - f) = M - f := IntWalk.i64_in _ (by omega)
    go_wp2
    exact bodyPost_ret (v := .tuple #[.agg #[.slice none 0 0, .slice none 0 0], .int .i64 13]) (by simp [results, Try.results22, go_sem, *]) rfl (HF.out _ _)
set_option maxRecDepth 100000 in
set_option maxHeartbeats 3200000 in
theorem part_ok {w : World} {A : Ar} (hA : A.Is w) (f n : Int) (hm : amE A.s A.a = 0) (hc : 0 ≤ f ∧ 0 ≤ n ∧ f + n ≤ ltN A.s) :
    Calls Try.prog 22 #[A.v, .int .i64 f, .int .i64 n] w (MadeE w ((lsdL A.s).set 0 n) ((A.a.drop (f * ltK A.s).toNat).take (n * ltK A.s).toNat) 0) := by
  obtain ⟨sa, sn, sc, aa, an, ac, s, a⟩ := A
  simp only [Ar.v] at hm hc ⊢
  obtain ⟨W, HW⟩ : ∃ z, Hid ((w.alloc (.cells #[.slice sa sn sc, .slice aa an ac] 45)).alloc (.cells #[.slice none 0 0, .slice none 0 0] 45) = z) := ⟨_, rfl⟩
  have h0 := ((Sp.start Non w).alloc 45 2 1 #[.slice sa sn sc, .slice aa an ac] rfl (by decide)).alloc 45 2 1 #[.slice none 0 0, .slice none 0 0] rfl (by decide)
  rw [HW.out] at h0
  have H0_ := h0
  try simp only [List.cons_append, List.nil_append, List.set_cons_zero, List.set_cons_succ, List.map_cons, List.map_nil, List.getD_cons_zero, List.getD_cons_succ, World.size_alloc] at H0_
  have H0 := Lib.hid H0_
  clear H0_
  have HI := Lib.hid hA
  have CM := Lib.hid (arrmay_any (hA.below H0.out.belowN (Nat.le_refl _)))
  simp only [Ar.v] at CM
  obtain ⟨hq1, hq2⟩ := amE_zero hm
  rw [hm] at CM
  obtain ⟨m1, m2⟩ := lsdL_may hq1
  have hll := lsdL_len s
  have hco := lsdL_cons s
  have hl8 := (mayE_zero m1).2.1
  have hN0 : 0 ≤ ltN s := (mayE_zero m1).1 0
  obtain ⟨M, HMM⟩ : ∃ z, Hid (ltN s = z) := ⟨_, rfl⟩
  obtain ⟨K, HKK⟩ : ∃ z, Hid (ltK s = z) := ⟨_, rfl⟩
  have hkm : mayE ((lsdL s).drop 1) = 0 := (mayE_app (s := [ltN s]) (t := (lsdL s).drop 1) (by rw [List.singleton_append, ← hco]; exact m1)).2
  have hK0 := pr_nonneg hkm
  have hpr : ltN s * ltK s = (an : Int) := by
    have e : pr (lsdL s) = ltN s * ltK s := by rw [hco, pr_cons]; rfl
    have hal : a.length = an := hA.ats.len
    rw [← e, m2, hq2, hal]
  have hKd : ltK s = pr ((lsdL s).drop 1) := rfl
  rw [← hKd] at hK0
  rw [HKK.out] at hK0 hpr ⊢
  rw [HMM.out] at hpr
  rw [HMM.out] at hc hN0
  obtain ⟨l, HLL⟩ : ∃ z, Hid (lsdL s = z) := ⟨_, rfl⟩
  rw [HLL.out] at hll hco hl8 m1
  rw [HLL.out] at hkm hKd ⊢
  rw [HKK.out] at hKd
  have HKM := Lib.hid hkm
  have HKD := Lib.hid hKd
  rw [HMM.out] at hco
  have y0 := H0.out.cell (i := 0) rfl 0 _ rfl
  have y1 := H0.out.cell (i := 0) rfl 1 _ rfl
  have HCO := Lib.hid hco
  clear hA hm hq1 hq2 m1 m2 h0 hco
  clear hkm hKd
  go_enter Try.func22, Try.ntmps22
  go_wp2_with fail
  rw [HW.out]
  refine CM.out.mono ?_; rintro e w1 ⟨rfl, hb1⟩
  have H1_ := H0.out.via hb1
  try simp only [List.cons_append, List.nil_append, List.set_cons_zero, List.set_cons_succ, List.map_cons, List.map_nil, List.getD_cons_zero, List.getD_cons_succ, World.size_alloc] at H1_
  have H1 := Lib.hid H1_
  clear H1_
  clear hb1 y0 y1
  have y0 := H1.out.cell (i := 0) rfl 0 _ rfl
  have y1 := H1.out.cell (i := 0) rfl 1 _ rfl
  have CL := Lib.hid (listed_any (HI.out.below H1.out.belowN (Nat.le_refl _)))
  simp only [Ar.v] at CL
  rw [HLL.out] at CL
  go_wp2_with fail
  refine CL.out.mono ?_; rintro e w2 ⟨lo, ln, lc, rfl, hL2, hO2, hb2⟩
  have hlen := hL2.len
  have hcap := hL2.cap
  have H2_ := (H1.out.intsNew hO2 hb2 hL2.big hL2.rng).toRow (i := 2) rfl
  try simp only [List.cons_append, List.nil_append, List.set_cons_zero, List.set_cons_succ, List.map_cons, List.map_nil, List.getD_cons_zero, List.getD_cons_succ, World.size_alloc] at H2_
  have H2 := Lib.hid H2_
  clear H2_
  obtain ⟨g, rfl⟩ := (H2.out.rcap (i := 2) rfl).2.2.2.2 (by omega)
  have hb : M ≤ 9223372036854775807 := by have := (hL2.rng 0).2; rw [HCO.out] at this; exact this
  have HL2 := Lib.hid hL2
  clear hL2 hO2 hb2 y0 y1
  have s0 := H2.out.cell (i := 2) rfl 0 (.int .i64 M) (by rw [HCO.out]; rfl)
  have x0 := H2.out.cell (i := 1) rfl 0 _ rfl
  have x1 := H2.out.cell (i := 1) rfl 1 _ rfl
  have f0 := H2.out.frozen (i := 1) rfl 0
  have f1 := H2.out.frozen (i := 1) rfl 1
  have hl0 : (0 : Int) < ln := by omega
  have HRS : Hid (∀ i, -9223372036854775808 ≤ (l.set 0 n).getD i 0 ∧ (l.set 0 n).getD i 0 ≤ 9223372036854775807) := fun i => by
    have h := HL2.out.rng i
    simp only [List.getD, List.getElem?_set] at h ⊢
    split
    · split
      · simp; omega
      · simp
    · exact h
  have h1' : ¬ f < 0 := by omega
  have h2' : ¬ n < 0 := by omega
  have h3' : ¬ M < f := by omega
  have h4' : ¬ M - f < n := by omega
  have z1 : IntKind.i64.wrap (M - f) = M - f := IntWalk.i64_in _ (by omega)
  have CK : Hid (∀ (ao : Option Addr) (c : Nat), Ls w2 ao (ln - 1) c (l.drop 1) → Calls Try.prog 62 #[.slice ao (ln - 1) c] w2 (RetS w2 (.int .i64 K))) := fun ao c h => by rw [HKD.out]; exact count4_any h HKM.out
  have hcut1 : Ls w2 (if lc = 1 then some ⟨g, 0, none⟩ else (some (⟨g, 0, none⟩ : Addr)).map fun x => x.add 1) (ln - 1) (lc - 1) (l.drop 1) := by
    have h := HL2.out.cutI 1 (ln - 1) (by omega)
    rwa [List.take_of_length_le (by rw [List.length_drop]; omega)] at h
  have HC1 := Lib.hid hcut1
  clear hc hcut1
  have HX : Hid (f * K = ((f * K).toNat : Int) ∧ n * K = ((n * K).toNat : Int) ∧ (f * K).toNat + (n * K).toNat ≤ an) := by
    have e1 : 0 ≤ f * K := Int.mul_nonneg (by omega) hK0.1
    have e2 : 0 ≤ n * K := Int.mul_nonneg (by omega) hK0.1
    have e3 : (f + n) * K ≤ M * K := Int.mul_le_mul_of_nonneg_right (by omega) hK0.1
    rw [Int.add_mul] at e3
    exact ⟨by omega, by omega, by omega⟩
  obtain ⟨p, HP⟩ : ∃ z, Hid ((f * K).toNat = z) := ⟨_, rfl⟩
  obtain ⟨m, HM⟩ : ∃ z, Hid ((n * K).toNat = z) := ⟨_, rfl⟩
  rw [HP.out, HM.out] at HX
  have hx1 := HX.out.1
  have hx3 : (f + n) * K = p + m := by rw [Int.add_mul, HX.out.1, HX.out.2.1]
  have hx2 := HX.out.2.2
  have hac := HI.out.ats.cap
  have htop := HI.out.ats.top
  have hbg := HI.out.ats.big
  simp only at hac htop hbg
  unfold maxLen at htop
  have z6 : IntKind.i64.wrap (f * K) = p := by rw [hx1]; exact IntWalk.i64_in _ (by omega)
  have z7 : IntKind.i64.wrap ((f + n) * K) = p + m := by rw [hx3]; exact IntWalk.i64_in _ (by omega)
  have z8 : IntKind.i64.wrap (f + n) = f + n := IntWalk.i64_in _ (by omega)
  have y0 := H2.out.cell (i := 0) rfl 1 _ rfl
  have g0 := H2.out.frozen (i := 2) rfl 0
  have H3_ := H2.out.put (i := 2) rfl 0 (.int .i64 n)
  try simp only [List.cons_append, List.nil_append, List.set_cons_zero, List.set_cons_succ, List.map_cons, List.map_nil, List.getD_cons_zero, List.getD_cons_succ, World.size_alloc] at H3_
  have H3 := Lib.hid H3_
  clear H3_
  clear hx1 hx3 hbg
  by_cases hlc : lc = 1
  · subst hlc
    obtain rfl : ln = 1 := by omega
    have C1 : Calls Try.prog 62 #[.slice (some ⟨g, 0, none⟩) 0 0] w2 (RetS w2 (.int .i64 K)) := CK.out (some ⟨g, 0, none⟩) 0 (by have h := HC1.out; split at h <;> first | exact h | (exfalso; omega))
    clear CK HC1
    by_cases hpc : ac = p
    · subst hpc
      obtain rfl : m = 0 := by omega
      have CC2 : Hid (∀ wx, Below w.heap.size w wx → Ls wx (aa) 0 (0) ((a.drop (f * K).toNat).take (n * K).toNat)) := fun wx hb => by
        rw [HM.out, List.take_zero]; exact Ls.zero _ _ (Nat.zero_le _)
      go_wp2_with fail
      refine C1.mono ?_; rintro e w4 ⟨rfl, hw⟩
      have hw' := hw.symm
      subst hw'
      go_wp2_with fail
      refine (clone6_any (CC2.out _ H3.out.belowN)).mono ?_; rintro e w5 ⟨ao5, c5, rfl, hL5, hO5, hb5⟩
      have h4 := (H3.out.toInts (i := 2) (zs := l.set 0 n) (by rw [HCO.out]; rfl) (by omega) HRS.out).intsNew hO5 hb5 hL5.big hL5.rng
      have x0 := h4.cell (i := 1) rfl 0 _ rfl
      have x1 := h4.cell (i := 1) rfl 1 _ rfl
      have f0 := h4.frozen (i := 1) rfl 0
      have f1 := h4.frozen (i := 1) rfl 1
      have HF : Hid (∀ u v, MadeE w (l.set 0 n) ((a.drop (f * K).toNat).take (n * K).toNat) 0 (.returned (.tuple #[.agg #[.slice (some ⟨g, 0, none⟩) 1 _, .slice ao5 0 c5], .int .i64 0])) ((w5.setCell ⟨w.heap.size + 1, 0, none⟩ u).setCell ⟨w.heap.size + 1, 1, none⟩ v)) := fun u v => by
        have h5 := ((h4.put (i := 1) rfl 0 u).put (i := 1) rfl 1 v).arrOf (i := 2) (j := 3) rfl (by decide) rfl
        exact h5.madeE (i := 3) rfl 0
      clear h4 hL5 hO5 hb5
      go_wp2
      exact bodyPost_ret (v := .tuple #[.agg #[.slice (some ⟨g, 0, none⟩) 1 _, .slice ao5 0 c5], .int .i64 0]) (by simp [results, Try.results22, go_sem, *]) rfl (HF.out _ _)
    · have hpc' : p < ac := by omega
      have z9 : (p : Int) < ac := by omega
      have CC2 : Hid (∀ wx, Below w.heap.size w wx → Ls wx (aa.map fun x => x.add p) m (ac - p) ((a.drop (f * K).toNat).take (n * K).toNat)) := fun wx hb => by
        rw [HP.out, HM.out]; exact (HI.out.ats.cutA p m hx2).below hb (Nat.le_refl _)
      go_wp2_with fail
      refine C1.mono ?_; rintro e w4 ⟨rfl, hw⟩
      have hw' := hw.symm
      subst hw'
      go_wp2_with fail
      refine (clone6_any (CC2.out _ H3.out.belowN)).mono ?_; rintro e w5 ⟨ao5, c5, rfl, hL5, hO5, hb5⟩
      have h4 := (H3.out.toInts (i := 2) (zs := l.set 0 n) (by rw [HCO.out]; rfl) (by omega) HRS.out).intsNew hO5 hb5 hL5.big hL5.rng
      have x0 := h4.cell (i := 1) rfl 0 _ rfl
      have x1 := h4.cell (i := 1) rfl 1 _ rfl
      have f0 := h4.frozen (i := 1) rfl 0
      have f1 := h4.frozen (i := 1) rfl 1
      have HF : Hid (∀ u v, MadeE w (l.set 0 n) ((a.drop (f * K).toNat).take (n * K).toNat) 0 (.returned (.tuple #[.agg #[.slice (some ⟨g, 0, none⟩) 1 _, .slice ao5 m c5], .int .i64 0])) ((w5.setCell ⟨w.heap.size + 1, 0, none⟩ u).setCell ⟨w.heap.size + 1, 1, none⟩ v)) := fun u v => by
        have h5 := ((h4.put (i := 1) rfl 0 u).put (i := 1) rfl 1 v).arrOf (i := 2) (j := 3) rfl (by decide) rfl
        exact h5.madeE (i := 3) rfl 0
      clear h4 hL5 hO5 hb5
      go_wp2
      exact bodyPost_ret (v := .tuple #[.agg #[.slice (some ⟨g, 0, none⟩) 1 _, .slice ao5 m c5], .int .i64 0]) (by simp [results, Try.results22, go_sem, *]) rfl (HF.out _ _)
  · have hlc' := hlc
    have C1 : Calls Try.prog 62 #[.slice (some ⟨g, 1, none⟩) (ln - 1) (lc - 1)] w2 (RetS w2 (.int .i64 K)) := CK.out (some ⟨g, 1, none⟩) (lc - 1) (by have h := HC1.out; split at h <;> first | exact h | (exfalso; omega))
    clear CK HC1
    by_cases hpc : ac = p
    · subst hpc
      obtain rfl : m = 0 := by omega
      have CC2 : Hid (∀ wx, Below w.heap.size w wx → Ls wx (aa) 0 (0) ((a.drop (f * K).toNat).take (n * K).toNat)) := fun wx hb => by
        rw [HM.out, List.take_zero]; exact Ls.zero _ _ (Nat.zero_le _)
      go_wp2_with fail
      refine C1.mono ?_; rintro e w4 ⟨rfl, hw⟩
      have hw' := hw.symm
      subst hw'
      go_wp2_with fail
      refine (clone6_any (CC2.out _ H3.out.belowN)).mono ?_; rintro e w5 ⟨ao5, c5, rfl, hL5, hO5, hb5⟩
      have h4 := (H3.out.toInts (i := 2) (zs := l.set 0 n) (by rw [HCO.out]; rfl) (by omega) HRS.out).intsNew hO5 hb5 hL5.big hL5.rng
      have x0 := h4.cell (i := 1) rfl 0 _ rfl
      have x1 := h4.cell (i := 1) rfl 1 _ rfl
      have f0 := h4.frozen (i := 1) rfl 0
      have f1 := h4.frozen (i := 1) rfl 1
      have HF : Hid (∀ u v, MadeE w (l.set 0 n) ((a.drop (f * K).toNat).take (n * K).toNat) 0 (.returned (.tuple #[.agg #[.slice (some ⟨g, 0, none⟩) ln _, .slice ao5 0 c5], .int .i64 0])) ((w5.setCell ⟨w.heap.size + 1, 0, none⟩ u).setCell ⟨w.heap.size + 1, 1, none⟩ v)) := fun u v => by
        have h5 := ((h4.put (i := 1) rfl 0 u).put (i := 1) rfl 1 v).arrOf (i := 2) (j := 3) rfl (by decide) rfl
        exact h5.madeE (i := 3) rfl 0
      clear h4 hL5 hO5 hb5
      go_wp2
      exact bodyPost_ret (v := .tuple #[.agg #[.slice (some ⟨g, 0, none⟩) ln _, .slice ao5 0 c5], .int .i64 0]) (by simp [results, Try.results22, go_sem, *]) rfl (HF.out _ _)
    · have hpc' : p < ac := by omega
      have z9 : (p : Int) < ac := by omega
      have CC2 : Hid (∀ wx, Below w.heap.size w wx → Ls wx (aa.map fun x => x.add p) m (ac - p) ((a.drop (f * K).toNat).take (n * K).toNat)) := fun wx hb => by
        rw [HP.out, HM.out]; exact (HI.out.ats.cutA p m hx2).below hb (Nat.le_refl _)
      go_wp2_with fail
      refine C1.mono ?_; rintro e w4 ⟨rfl, hw⟩
      have hw' := hw.symm
      subst hw'
      go_wp2_with fail
      refine (clone6_any (CC2.out _ H3.out.belowN)).mono ?_; rintro e w5 ⟨ao5, c5, rfl, hL5, hO5, hb5⟩
      have h4 := (H3.out.toInts (i := 2) (zs := l.set 0 n) (by rw [HCO.out]; rfl) (by omega) HRS.out).intsNew hO5 hb5 hL5.big hL5.rng
      have x0 := h4.cell (i := 1) rfl 0 _ rfl
      have x1 := h4.cell (i := 1) rfl 1 _ rfl
      have f0 := h4.frozen (i := 1) rfl 0
      have f1 := h4.frozen (i := 1) rfl 1
      have HF : Hid (∀ u v, MadeE w (l.set 0 n) ((a.drop (f * K).toNat).take (n * K).toNat) 0 (.returned (.tuple #[.agg #[.slice (some ⟨g, 0, none⟩) ln _, .slice ao5 m c5], .int .i64 0])) ((w5.setCell ⟨w.heap.size + 1, 0, none⟩ u).setCell ⟨w.heap.size + 1, 1, none⟩ v)) := fun u v => by
        have h5 := ((h4.put (i := 1) rfl 0 u).put (i := 1) rfl 1 v).arrOf (i := 2) (j := 3) rfl (by decide) rfl
        exact h5.madeE (i := 3) rfl 0
      clear h4 hL5 hO5 hb5
      go_wp2
      exact bodyPost_ret (v := .tuple #[.agg #[.slice (some ⟨g, 0, none⟩) ln _, .slice ao5 m c5], .int .i64 0]) (by simp [results, Try.results22, go_sem, *]) rfl (HF.out _ _)
theorem part_any {w : World} {A : Ar} (hA : A.Is w) (f n : Int) (hf : -9223372036854775808 ≤ f ∧ f ≤ 9223372036854775807) (hn : -9223372036854775808 ≤ n ∧ n ≤ 9223372036854775807) :
    Calls Try.prog 22 #[A.v, .int .i64 f, .int .i64 n] w (MadeE w (ptS A.s A.a f n) (ptA A.s A.a f n) (ptE A.s A.a f n)) := by
  by_cases hm : amE A.s A.a = 0
  · by_cases hc : f < 0 ∨ n < 0 ∨ ltN A.s < f ∨ ltN A.s - f < n
    · have e : ptE A.s A.a f n = 13 := by unfold ptE; rw [if_pos hm, if_pos hc]
      have h := part_idx hA f n hf hn hm hc
      rw [ptS, ptA, e, if_neg (by decide), if_neg (by decide)]
      exact h
    · have e : ptE A.s A.a f n = 0 := by unfold ptE; rw [if_pos hm, if_neg hc]
      have h := part_ok hA f n hm (by omega)
      rw [ptS, ptA, e, if_pos rfl, if_pos rfl]
      exact h
  · have e : ptE A.s A.a f n = 1 := by unfold ptE; rw [if_neg hm]
    have h := part_bad hA f n hm
    rw [ptS, ptA, e, if_neg (by decide), if_neg (by decide)]
    exact h
end Go.Proofs.Ythackmkdicpdeaa
namespace Go.Proofs.Ythackmkdicpdeaa
open Go.RowKit Go.Lib
set_option linter.unusedVariables false
set_option linter.unusedSimpArgs false
attribute [local go_sem] alloc_drewN setCell_drewN
/-- Pieces of n from each place; pieces of at most n one behind the other. -/
def pcUp (n : Int) (k : Nat) : List (Int × Int) := (List.range k).map fun (i : Nat) => ((i : Int), n)
def pcDn (m d : Int) (k : Nat) : List (Int × Int) := (List.range k).map fun (i : Nat) => ((i : Int) * d, min d (m - (i : Int) * d))
/-- How many pieces; the pieces. -/
def pcN (m n : Int) : Nat := if 0 < n then (m - n + 1).toNat else ((m + (-n) - 1) / (-n)).toNat
def pcL (m n : Int) : List (Int × Int) := if 0 < n then pcUp n (pcN m n) else pcDn m (-n) (pcN m n)
def cellsP (l : List (Int × Int)) : List Value := l.flatMap fun x => [.int .i64 x.1, .int .i64 x.2]
/-- The error, the pieces, what is tried. -/
def pcT (s : List Int) (n : Int) : List Int := (lsdL s).set 0 (max n (-n))
def pcE (s a : List Int) (n : Int) : Int := if amE s a = 0 then if n = 0 then 10 else if (pcL (ltN s) n).length = 0 then if n > 4096 ∨ n < -4096 ∨ mayE (pcT s n) ≠ 0 then 17 else 0 else 0 else 1
def pcP (s a : List Int) (n : Int) : List (Int × Int) := if amE s a = 0 ∧ n ≠ 0 then pcL (ltN s) n else []
def pcS (s a : List Int) (n : Int) : List Int := if pcE s a n = 0 ∧ (pcL (ltN s) n).length = 0 then pcT s n else []
def pcA (s a : List Int) (n : Int) : List Int := if pcE s a n = 0 ∧ (pcL (ltN s) n).length = 0 then List.replicate (pr (pcT s n)).toNat 0 else []
/-- Pieces of the call's own, and an array. -/
def PiecesP (w : World) (l : List (Int × Int)) (s a : List Int) (err : Int) (e : Ending) (w' : World) : Prop :=
  ∃ po pn pc B, e = .returned (.tuple #[.slice po pn pc, B.v, .int .i64 err]) ∧ Sp Non w w' [Pt.row ⟨93, 2, po, pn, pc, cellsP l⟩, Pt.arr B] ∧ l.length = pn ∧ B.s = s ∧ B.a = a
theorem pcUp_succ (n : Int) (k : Nat) : pcUp n (k + 1) = pcUp n k ++ [((k : Int), n)] := by simp [pcUp, List.range_succ]
theorem pcDn_succ (m d : Int) (k : Nat) : pcDn m d (k + 1) = pcDn m d k ++ [((k : Int) * d, min d (m - (k : Int) * d))] := by simp [pcDn, List.range_succ]
theorem cellsP_app (l r : List (Int × Int)) : cellsP (l ++ r) = cellsP l ++ cellsP r := by simp [cellsP]
theorem pcN_up {m n : Int} (hn : 0 < n) (k : Nat) : k < pcN m n ↔ (k : Int) ≤ m - n := by unfold pcN; rw [if_pos hn]; omega
theorem pcN_dn {m n : Int} (hn : n < 0) (k : Nat) : k < pcN m n ↔ (k : Int) * (-n) < m := by
  unfold pcN
  rw [if_neg (by omega), Int.lt_toNat]
  have h : (k : Int) < (m + (-n) - 1) / (-n) ↔ (k : Int) + 1 ≤ (m + (-n) - 1) / (-n) := Iff.rfl
  rw [h, Int.le_ediv_iff_mul_le (by omega), Int.add_mul]
  omega
theorem pcL_len (m n : Int) : (pcL m n).length = pcN m n := by unfold pcL; split <;> simp [pcUp, pcDn]
theorem pcN_le {m n : Int} (hm : 0 ≤ m ∧ m ≤ 4096) (hn : n ≠ 0) : pcN m n ≤ 4096 := by
  rcases Nat.lt_or_ge 4096 (pcN m n) with h | h
  · by_cases hp : 0 < n
    · have := (pcN_up hp 4096).1 h; omega
    · have := (pcN_dn (by omega) 4096).1 h
      have : (4096 : Int) * 1 ≤ 4096 * (-n) := Int.mul_le_mul_of_nonneg_left (by omega) (by omega)
      omega
  · exact h
set_option maxHeartbeats 1600000 in
theorem pieces_bad {w : World} {A : Ar} (hA : A.Is w) (n : Int) (hm : amE A.s A.a ≠ 0)  : Calls Try.prog 23 #[A.v, .int .i64 n] w (PiecesP w [] [] [] 1) := by
  obtain ⟨sa, sn, sc, aa, an, ac, s, a⟩ := A
  simp only [Ar.v] at hm ⊢
  obtain ⟨W, HW⟩ : ∃ z, Hid ((w.alloc (.cells #[.slice sa sn sc, .slice aa an ac] 45)).alloc (.cells #[.slice none 0 0, .slice none 0 0] 45) = z) := ⟨_, rfl⟩
  have h0 := ((Sp.start Non w).alloc 45 2 1 #[.slice sa sn sc, .slice aa an ac] rfl (by decide)).alloc 45 2 1 #[.slice none 0 0, .slice none 0 0] rfl (by decide)
  rw [HW.out] at h0
  have H0_ := h0
  try simp only [List.cons_append, List.nil_append, List.set_cons_zero, List.set_cons_succ, List.map_cons, List.map_nil, List.getD_cons_zero, List.getD_cons_succ, World.size_alloc] at H0_
  have H0 := Lib.hid H0_
  clear H0_
  have CM := Lib.hid (arrmay_any (hA.below H0.out.belowN (Nat.le_refl _)))
  simp only [Ar.v] at CM
  obtain ⟨m, hmm⟩ : ∃ m, m = amE s a := ⟨_, rfl⟩
  rw [← hmm] at CM hm
  have q0 : (m != 0) = true := by simpa using hm
  clear hmm
  have y0 := H0.out.cell (i := 0) rfl 0 _ rfl
  have y1 := H0.out.cell (i := 0) rfl 1 _ rfl
  clear hA hm h0
  go_enter Try.func23, Try.ntmps23
  go_wp2_with fail
  rw [HW.out]
  refine CM.out.mono ?_; rintro e w1 ⟨rfl, hb1⟩
  have H1_ := H0.out.via hb1
  try simp only [List.cons_append, List.nil_append, List.set_cons_zero, List.set_cons_succ, List.map_cons, List.map_nil, List.getD_cons_zero, List.getD_cons_succ, World.size_alloc] at H1_
  have H1 := Lib.hid H1_
  clear H1_
  have x0 := H1.out.cell (i := 1) rfl 0 _ rfl
  have x1 := H1.out.cell (i := 1) rfl 1 _ rfl
  have f0 := H1.out.frozen (i := 1) rfl 0
  have f1 := H1.out.frozen (i := 1) rfl 1
  have HF : Hid (∀ u v, PiecesP w [] [] [] 1 (.returned (.tuple #[.slice none 0 0, .agg #[.slice none 0 0, .slice none 0 0], .int .i64 1])) ((w1.setCell ⟨w.heap.size + 1, 0, none⟩ u).setCell ⟨w.heap.size + 1, 1, none⟩ v)) := fun u v => by
    have h := (H1.out.put (i := 1) rfl 0 u).put (i := 1) rfl 1 v
    have h2 := ((h.rowNil 93 2).arrNew (Ar.is_nil _) (Ar.own_nil _ _) (Below.refl _ _)).pick [2, 3] (by decide)
    exact ⟨none, 0, 0, ⟨none, 0, 0, none, 0, 0, [], []⟩, rfl, h2, rfl, rfl, rfl⟩
  clear hb1 y0 y1
  go_wp2
  exact bodyPost_ret (v := .tuple #[.slice none 0 0, .agg #[.slice none 0 0, .slice none 0 0], .int .i64 1]) (by simp [results, Try.results23, go_sem, *]) rfl (HF.out _ _)
set_option maxHeartbeats 1600000 in
theorem pieces_zero {w : World} {A : Ar} (hA : A.Is w) (n : Int) (hm : amE A.s A.a = 0) (hn0 : n = 0) : Calls Try.prog 23 #[A.v, .int .i64 n] w (PiecesP w [] [] [] 10) := by
  obtain ⟨sa, sn, sc, aa, an, ac, s, a⟩ := A
  simp only [Ar.v] at hm ⊢
  obtain ⟨W, HW⟩ : ∃ z, Hid ((w.alloc (.cells #[.slice sa sn sc, .slice aa an ac] 45)).alloc (.cells #[.slice none 0 0, .slice none 0 0] 45) = z) := ⟨_, rfl⟩
  have h0 := ((Sp.start Non w).alloc 45 2 1 #[.slice sa sn sc, .slice aa an ac] rfl (by decide)).alloc 45 2 1 #[.slice none 0 0, .slice none 0 0] rfl (by decide)
  rw [HW.out] at h0
  have H0_ := h0
  try simp only [List.cons_append, List.nil_append, List.set_cons_zero, List.set_cons_succ, List.map_cons, List.map_nil, List.getD_cons_zero, List.getD_cons_succ, World.size_alloc] at H0_
  have H0 := Lib.hid H0_
  clear H0_
  have CM := Lib.hid (arrmay_any (hA.below H0.out.belowN (Nat.le_refl _)))
  simp only [Ar.v] at CM
  rw [hm] at CM
  subst hn0
  have y0 := H0.out.cell (i := 0) rfl 0 _ rfl
  have y1 := H0.out.cell (i := 0) rfl 1 _ rfl
  clear hA hm h0
  go_enter Try.func23, Try.ntmps23
  go_wp2_with fail
  rw [HW.out]
  refine CM.out.mono ?_; rintro e w1 ⟨rfl, hb1⟩
  have H1_ := H0.out.via hb1
  try simp only [List.cons_append, List.nil_append, List.set_cons_zero, List.set_cons_succ, List.map_cons, List.map_nil, List.getD_cons_zero, List.getD_cons_succ, World.size_alloc] at H1_
  have H1 := Lib.hid H1_
  clear H1_
  have x0 := H1.out.cell (i := 1) rfl 0 _ rfl
  have x1 := H1.out.cell (i := 1) rfl 1 _ rfl
  have f0 := H1.out.frozen (i := 1) rfl 0
  have f1 := H1.out.frozen (i := 1) rfl 1
  have HF : Hid (∀ u v, PiecesP w [] [] [] 10 (.returned (.tuple #[.slice none 0 0, .agg #[.slice none 0 0, .slice none 0 0], .int .i64 10])) ((w1.setCell ⟨w.heap.size + 1, 0, none⟩ u).setCell ⟨w.heap.size + 1, 1, none⟩ v)) := fun u v => by
    have h := (H1.out.put (i := 1) rfl 0 u).put (i := 1) rfl 1 v
    have h2 := ((h.rowNil 93 2).arrNew (Ar.is_nil _) (Ar.own_nil _ _) (Below.refl _ _)).pick [2, 3] (by decide)
    exact ⟨none, 0, 0, ⟨none, 0, 0, none, 0, 0, [], []⟩, rfl, h2, rfl, rfl, rfl⟩
  clear hb1 y0 y1
  go_wp2
  exact bodyPost_ret (v := .tuple #[.slice none 0 0, .agg #[.slice none 0 0, .slice none 0 0], .int .i64 10]) (by simp [results, Try.results23, go_sem, *]) rfl (HF.out _ _)
/-- Behind the loops: the boxes, the lengths, the pieces. -/
def PcI (w wx : World) (S A : Value) (g ln lc : Nat) (l : List Int) (b1 : Nat) (po : Option Addr) (k pc : Nat) (ps : List (Int × Int)) : Prop :=
  Sp Non w wx [Pt.row ⟨45, 2, some ⟨w.heap.size, 0, none⟩, 1, 1, [S, A]⟩, Pt.row ⟨45, 2, some ⟨b1, 0, none⟩, 1, 1, [.slice none 0 0, .slice none 0 0]⟩, Pt.row ⟨3, 1, some ⟨g, 0, none⟩, ln, lc, l.map (Value.int .i64)⟩, Pt.row ⟨93, 2, po, k, pc, cellsP ps⟩]
theorem PcI.more {w wx : World} {S A : Value} {g ln lc : Nat} {l : List Int} {b1 : Nat} {po : Option Addr} {k pc : Nat} {ps : List (Int × Int)} {x y : Int} (h : Sp Non w wx [Pt.row ⟨45, 2, some ⟨w.heap.size, 0, none⟩, 1, 1, [S, A]⟩, Pt.row ⟨45, 2, some ⟨b1, 0, none⟩, 1, 1, [.slice none 0 0, .slice none 0 0]⟩, Pt.row ⟨3, 1, some ⟨g, 0, none⟩, ln, lc, l.map (Value.int .i64)⟩, Pt.row ⟨93, 2, po, k, pc, cellsP ps ++ [.int .i64 x, .int .i64 y]⟩]) :
    PcI w wx S A g ln lc l b1 po k pc (ps ++ [(x, y)]) := by unfold PcI; rw [cellsP_app]; exact h
set_option maxRecDepth 100000 in
set_option maxHeartbeats 3200000 in
theorem pieces_ok {w : World} {A : Ar} (hA : A.Is w) (n : Int) (hn : -9223372036854775808 ≤ n ∧ n ≤ 9223372036854775807) (hn0 : n ≠ 0) (hm : amE A.s A.a = 0) :
    Calls Try.prog 23 #[A.v, .int .i64 n] w (PiecesP w (pcP A.s A.a n) (pcS A.s A.a n) (pcA A.s A.a n) (pcE A.s A.a n)) := by
  obtain ⟨sa, sn, sc, aa, an, ac, s, a⟩ := A
  simp only [Ar.v] at hm ⊢
  obtain ⟨W, HW⟩ : ∃ z, Hid ((w.alloc (.cells #[.slice sa sn sc, .slice aa an ac] 45)).alloc (.cells #[.slice none 0 0, .slice none 0 0] 45) = z) := ⟨_, rfl⟩
  have h0 := ((Sp.start Non w).alloc 45 2 1 #[.slice sa sn sc, .slice aa an ac] rfl (by decide)).alloc 45 2 1 #[.slice none 0 0, .slice none 0 0] rfl (by decide)
  rw [HW.out] at h0
  have H0_ := h0
  try simp only [List.cons_append, List.nil_append, List.set_cons_zero, List.set_cons_succ, List.map_cons, List.map_nil, List.getD_cons_zero, List.getD_cons_succ, World.size_alloc] at H0_
  have H0 := Lib.hid H0_
  clear H0_
  have HI := Lib.hid hA
  have CM := Lib.hid (arrmay_any (hA.below H0.out.belowN (Nat.le_refl _)))
  simp only [Ar.v] at CM
  obtain ⟨hq1, hq2⟩ := amE_zero hm
  rw [hm] at CM
  obtain ⟨m1, m2⟩ := lsdL_may hq1
  have hll := lsdL_len s
  have hco := lsdL_cons s
  have hl8 := (mayE_zero m1).2.1
  have hN0 : 0 ≤ ltN s := (mayE_zero m1).1 0
  have hN1 : ltN s ≤ 4096 := by
    have h := (mayE_zero m1).2.2
    rw [hco, pm_cons'] at h
    have h1 := pm_pos ((lsdL s).drop 1)
    have := (le_mul1 (show 1 ≤ max (ltN s) 1 by omega) h1).1
    omega
  have e1 : pcP s a n = pcL (ltN s) n := by unfold pcP; rw [if_pos ⟨hm, hn0⟩]
  have e2 : pcE s a n = if (pcL (ltN s) n).length = 0 then if n > 4096 ∨ n < -4096 ∨ mayE (pcT s n) ≠ 0 then 17 else 0 else 0 := by unfold pcE; rw [if_pos hm, if_neg hn0]
  rw [pcS, pcA, e1, e2, pcL_len]
  have e3 : pcT s n = (lsdL s).set 0 (max n (-n)) := rfl
  rw [e3]
  obtain ⟨M, HMM⟩ : ∃ z, Hid (ltN s = z) := ⟨_, rfl⟩
  rw [HMM.out] at hN0 hN1 ⊢
  obtain ⟨l, HLL⟩ : ∃ z, Hid (lsdL s = z) := ⟨_, rfl⟩
  rw [HLL.out] at hll hco hl8 m1 ⊢
  rw [HMM.out] at hco
  have y0 := H0.out.cell (i := 0) rfl 0 _ rfl
  have y1 := H0.out.cell (i := 0) rfl 1 _ rfl
  have HCO := Lib.hid hco
  have hNle := pcN_le ⟨hN0, hN1⟩ hn0
  obtain ⟨i4, hi4, hza4, hzb4, hzc4⟩ := info_parts (P := Try.prog) (e := 93) (z := .agg #[.int .i64 0, .int .i64 0]) (size := 2) (bytes := 16) (by kernel_rfl)
  have q0 : (n == 0) = false := by simpa using hn0
  obtain ⟨RE, HRE⟩ : ∃ z, Hid (z = if pcN M n = 0 then if n > 4096 ∨ n < -4096 ∨ mayE (l.set 0 (max n (-n))) ≠ 0 then (17 : Int) else 0 else 0) := ⟨_, rfl⟩
  rw [← HRE.out]
  obtain ⟨RS, HRS⟩ : ∃ z, Hid (z = if RE = 0 ∧ pcN M n = 0 then l.set 0 (max n (-n)) else []) := ⟨_, rfl⟩
  obtain ⟨RA, HRA⟩ : ∃ z, Hid (z = if RE = 0 ∧ pcN M n = 0 then List.replicate (pr (l.set 0 (max n (-n)))).toNat (0 : Int) else []) := ⟨_, rfl⟩
  rw [← HRS.out, ← HRA.out]
  clear hA hm hq1 hq2 m1 m2 h0 hco e1 e2 e3
  go_enter Try.func23, Try.ntmps23
  go_wp2_with fail
  rw [HW.out]
  refine CM.out.mono ?_; rintro e w1 ⟨rfl, hb1⟩
  have H1_ := H0.out.via hb1
  try simp only [List.cons_append, List.nil_append, List.set_cons_zero, List.set_cons_succ, List.map_cons, List.map_nil, List.getD_cons_zero, List.getD_cons_succ, World.size_alloc] at H1_
  have H1 := Lib.hid H1_
  clear H1_
  clear hb1 y0 y1
  have y0 := H1.out.cell (i := 0) rfl 0 _ rfl
  have y1 := H1.out.cell (i := 0) rfl 1 _ rfl
  have CL := Lib.hid (listed_any (HI.out.below H1.out.belowN (Nat.le_refl _)))
  simp only [Ar.v] at CL
  rw [HLL.out] at CL
  go_wp2_with fail
  refine CL.out.mono ?_; rintro e w2 ⟨lo, ln, lc, rfl, hL2, hO2, hb2⟩
  have hlen := hL2.len
  have hcap := hL2.cap
  have H2_ := ((H1.out.intsNew hO2 hb2 hL2.big hL2.rng).toRow (i := 2) rfl).rowNil 93 2
  try simp only [List.cons_append, List.nil_append, List.set_cons_zero, List.set_cons_succ, List.map_cons, List.map_nil, List.getD_cons_zero, List.getD_cons_succ, World.size_alloc] at H2_
  have H2 := Lib.hid H2_
  clear H2_
  obtain ⟨g, rfl⟩ := (H2.out.rcap (i := 2) rfl).2.2.2.2 (by omega)
  have HL2 := Lib.hid hL2
  clear hL2 hO2 hb2 y0 y1
  have s0 := H2.out.cell (i := 2) rfl 0 (.int .i64 M) (by rw [HCO.out]; rfl)
  have hl0 : (0 : Int) < ln := by omega
  obtain ⟨b1, HB1⟩ : ∃ z, Hid (w.heap.size + 1 = z) := ⟨_, rfl⟩
  rw [HB1.out] at H2 ⊢
  go_upto_if 26 with fail
  go_cut [9, 10, 11, 12] from 26 to 60 (fun (p : Value) (q1 q2 q3 : Value) (wx : World) => ∃ (po : Option Addr) (pc : Nat), p = Value.slice po (pcN M n) pc ∧ Hid (PcI w wx (.slice sa sn sc) (.slice aa an ac) g ln lc l b1 po (pcN M n) pc (pcL M n)))
  case first =>
    by_cases hp : 0 < n
    · have hL : pcL M n = pcUp n (pcN M n) := by unfold pcL; rw [if_pos hp]
      have hK := pcN_up (m := M) hp
      obtain ⟨N, HN⟩ : ∃ z, Hid (pcN M n = z) := ⟨_, rfl⟩
      rw [HN.out] at hL hK hNle
      have HK := Lib.hid hK
      have z1 : IntKind.i64.wrap (M - n) = M - n := IntWalk.i64_in _ (by omega)
      have HRL := Lib.hid hL
      clear hK hL hn0 q0
      rw [show decide (0 < n) = true from decide_eq_true hp]
      go_wp2_with fail
      go_loopw [9, 10] (fun u v wr => ∃ (k : Nat) (po : Option Addr) (pc : Nat) (x : Int), k ≤ N ∧ Hid (x = (k : Int)) ∧ u = Value.slice po k pc ∧ v = .int .i64 x ∧ Hid (PcI w wr (.slice sa sn sc) (.slice aa an ac) g ln lc l b1 po k pc (pcUp n k))) (fun _ v _ => N - (RowKit.intOf v).toNat)
      case atStart => exact ⟨0, none, 0, 0, by omega, rfl, rfl, rfl, H2.out⟩
      case round =>
        obtain ⟨k, po, pc, x, hk, HX, rfl, rfl, HO⟩ := hrel
        by_cases hlt : k < N
        · have hc : x ≤ M - n := by rw [HX.out]; exact (HK.out k).1 hlt
          have hx1 : 0 ≤ x := by rw [HX.out]; omega
          have z2 : IntKind.i64.wrap (x + 1) = x + 1 := IntWalk.i64_in _ (by omega)
          have HV := Lib.hid (Sp.via HO.out (abal wr (.cells #[.int .i64 x, .int .i64 n] 93)))
          have hmx : k + 1 ≤ maxLen := by unfold maxLen; omega
          have hbyt : (k + 1) * 16 ≤ 140737488355328 := by omega
          go_wp2_with (at_builtin; refine Sp.wpList_append HV.out rfl _ _ 82 rfl 93 i4 (.agg #[.int .i64 0, .int .i64 0]) 2 16 Try.underlying82 hi4 hza4 hzb4 hzc4 rfl (by decide) (i := 3) rfl rfl ⟨wr.heap.size, 0, none⟩ 1 1 rfl [.int .i64 x, .int .i64 n] rfl (newsA wr _ _ _) (by simp [Value.oneCell']) hmx hbyt ?_)
          intro b9 d9 w9 hH9
          have HF : Hid (PcI w w9 (.slice sa sn sc) (.slice aa an ac) g ln lc l b1 b9 (k + 1) d9 (pcUp n (k + 1))) := by
            show PcI _ _ _ _ _ _ _ _ _ _ _ _ _
            rw [pcUp_succ, ← HX.out]
            exact PcI.more hH9
          clear hH9
          go_wp2
          go_roundw
          case rel => first | exact ⟨k + 1, b9, d9, x + 1, by omega, by show _ = _; rw [HX.out]; push_cast; rfl, rfl, rfl, HF⟩ | ((repeat apply Exists.intro); exact ⟨⟨k + 1, b9, d9, x + 1, by omega, by show _ = _; rw [HX.out]; push_cast; rfl, rfl, rfl, HF⟩, rfl⟩)
          case measure => have := HX.out; simp [RowKit.intOf]; omega
        · have hc : ¬ (x ≤ M - n) := fun h => hlt ((HK.out k).2 (by rw [← HX.out]; exact h))
          obtain rfl : k = N := by omega
          go_wp2_with fail
          go_meet
          first | exact ⟨po, pc, by rw [HN.out], by rw [HN.out, HRL.out]; exact HO⟩ | ((repeat apply Exists.intro); exact ⟨⟨po, pc, by rw [HN.out], by rw [HN.out, HRL.out]; exact HO⟩, rfl⟩)
    · have hd0 : n < 0 := by omega
      have hL : pcL M n = pcDn M (-n) (pcN M n) := by unfold pcL; rw [if_neg hp]
      have hK : ∀ k : Nat, k < pcN M n ↔ (k : Int) * (-n) < M := fun k => pcN_dn hd0 k
      obtain ⟨N, HN⟩ : ∃ z, Hid (pcN M n = z) := ⟨_, rfl⟩
      rw [HN.out] at hL hK hNle
      have HK := Lib.hid hK
      have HRL := Lib.hid hL
      clear hK hL hn0 q0
      go_wp2_with fail
      go_loopw [9, 11, 12] (fun u v q wr => ∃ (k : Nat) (po : Option Addr) (pc : Nat) (x : Int), k ≤ N ∧ Hid (x = min ((k : Int) * (-n)) M) ∧ u = Value.slice po k pc ∧ v = .int .i64 x ∧ Hid (PcI w wr (.slice sa sn sc) (.slice aa an ac) g ln lc l b1 po k pc (pcDn M (-n) k))) (fun _ v _ _ => (M - RowKit.intOf v).toNat)
      case atStart => exact ⟨0, none, 0, 0, by omega, by show _ = _; simp; omega, rfl, rfl, H2.out⟩
      case round =>
        obtain ⟨k, po, pc, x, hk, HX, rfl, rfl, HO⟩ := hrel
        have hkd : 0 ≤ (k : Int) * (-n) := Int.mul_nonneg (by omega) (by omega)
        have hx := HX.out
        have hx0 : 0 ≤ x := by omega
        have hxM : x ≤ M := by omega
        by_cases hlt : x < M
        · have hxk : x = (k : Int) * (-n) := by omega
          have hkN : k < N := (HK.out k).2 (by omega)
          have hsucc : ((k + 1 : Nat) : Int) * (-n) = (k : Int) * (-n) + (-n) := by push_cast; rw [Int.add_mul, Int.one_mul]
          have HSU := Lib.hid (And.intro hxk hsucc)
          have hmx : k + 1 ≤ maxLen := by unfold maxLen; omega
          have hbyt : (k + 1) * 16 ≤ 140737488355328 := by omega
          have z1 : IntKind.i64.wrap (M - x) = M - x := IntWalk.i64_in _ (by omega)
          have z2 : IntKind.i64.wrap (-(M - x)) = -(M - x) := IntWalk.i64_in _ (by omega)
          have z2' : IntKind.i64.wrap (x - M) = x - M := IntWalk.i64_in _ (by omega)
          clear hx hxk hsucc hkd
          by_cases hdm : -n < M - x
          · have z3 : IntKind.i64.wrap (-n) = -n := IntWalk.i64_in _ (by omega)
            have z4 : -(M - x) < n := by omega
            have z5 : x - M < n := by omega
            have z6 : IntKind.i64.wrap (x + (-n)) = x + (-n) := IntWalk.i64_in _ (by omega)
            have HV := Lib.hid (Sp.via HO.out (abal wr (.cells #[.int .i64 x, .int .i64 (-n)] 93)))
            have HPC : Hid ((((k : Int) * (-n), min (-n) (M - (k : Int) * (-n))) : Int × Int) = (x, -n)) := by
              show _ = _
              rw [← HSU.out.1]
              congr 1
              omega
            have HXX : Hid (x + (-n) = min (((k + 1 : Nat) : Int) * (-n)) M) := by
              show _ = _
              rw [HSU.out.2, ← HSU.out.1]
              omega
            go_wp2_with (at_builtin; refine Sp.wpList_append HV.out rfl _ _ 82 rfl 93 i4 (.agg #[.int .i64 0, .int .i64 0]) 2 16 Try.underlying82 hi4 hza4 hzb4 hzc4 rfl (by decide) (i := 3) rfl rfl ⟨wr.heap.size, 0, none⟩ 1 1 rfl [.int .i64 x, .int .i64 (-n)] rfl (newsA wr _ _ _) (by simp [Value.oneCell']) hmx hbyt ?_)
            intro b9 d9 w9 hH9
            have HF : Hid (PcI w w9 (.slice sa sn sc) (.slice aa an ac) g ln lc l b1 b9 (k + 1) d9 (pcDn M (-n) (k + 1))) := by
              show PcI _ _ _ _ _ _ _ _ _ _ _ _ _
              rw [pcDn_succ, HPC.out]
              exact PcI.more hH9
            clear hH9
            go_wp2
            go_roundw
            case rel => first | exact ⟨k + 1, b9, d9, x + (-n), by omega, HXX, rfl, rfl, HF⟩ | ((repeat apply Exists.intro); exact ⟨⟨k + 1, b9, d9, x + (-n), by omega, HXX, rfl, rfl, HF⟩, rfl⟩)
            case measure => simp [RowKit.intOf]; omega
          · have z4 : ¬ -(M - x) < n := by omega
            have z5 : ¬ x - M < n := by omega
            have z6 : IntKind.i64.wrap (x + (M - x)) = x + (M - x) := IntWalk.i64_in _ (by omega)
            have HV := Lib.hid (Sp.via HO.out (abal wr (.cells #[.int .i64 x, .int .i64 (M - x)] 93)))
            have HPC : Hid ((((k : Int) * (-n), min (-n) (M - (k : Int) * (-n))) : Int × Int) = (x, M - x)) := by
              show _ = _
              rw [← HSU.out.1]
              congr 1
              omega
            have HXX : Hid (x + (M - x) = min (((k + 1 : Nat) : Int) * (-n)) M) := by
              show _ = _
              rw [HSU.out.2, ← HSU.out.1]
              omega
            go_wp2_with (at_builtin; refine Sp.wpList_append HV.out rfl _ _ 82 rfl 93 i4 (.agg #[.int .i64 0, .int .i64 0]) 2 16 Try.underlying82 hi4 hza4 hzb4 hzc4 rfl (by decide) (i := 3) rfl rfl ⟨wr.heap.size, 0, none⟩ 1 1 rfl [.int .i64 x, .int .i64 (M - x)] rfl (newsA wr _ _ _) (by simp [Value.oneCell']) hmx hbyt ?_)
            intro b9 d9 w9 hH9
            have HF : Hid (PcI w w9 (.slice sa sn sc) (.slice aa an ac) g ln lc l b1 b9 (k + 1) d9 (pcDn M (-n) (k + 1))) := by
              show PcI _ _ _ _ _ _ _ _ _ _ _ _ _
              rw [pcDn_succ, HPC.out]
              exact PcI.more hH9
            clear hH9
            go_wp2
            go_roundw
            case rel => first | exact ⟨k + 1, b9, d9, x + (M - x), by omega, HXX, rfl, rfl, HF⟩ | ((repeat apply Exists.intro); exact ⟨⟨k + 1, b9, d9, x + (M - x), by omega, HXX, rfl, rfl, HF⟩, rfl⟩)
            case measure => simp [RowKit.intOf]; omega
        · have hkN : ¬ k < N := fun h => by have := (HK.out k).1 h; omega
          obtain rfl : k = N := by omega
          have hge : M ≤ x := by omega
          go_wp2_with fail
          go_meet
          first | exact ⟨po, pc, by rw [HN.out], by rw [HN.out, HRL.out]; exact HO⟩ | ((repeat apply Exists.intro); exact ⟨⟨po, pc, by rw [HN.out], by rw [HN.out, HRL.out]; exact HO⟩, rfl⟩)
  case rest =>
    obtain ⟨po, pc, rfl, HO⟩ := hcut
    obtain ⟨U, hU⟩ : ∃ z : World, z = wc := ⟨_, rfl⟩
    subst hU
    obtain ⟨N, HN⟩ : ∃ z, Hid (pcN M n = z) := ⟨_, rfl⟩
    rw [HN.out] at HRE HRS HRA HO hNle ⊢
    have HQ : Hid (Sp Non w U _) := HO.out
    have x0 := HQ.out.cell (i := 1) rfl 0 _ rfl
    have x1 := HQ.out.cell (i := 1) rfl 1 _ rfl
    have f0 := HQ.out.frozen (i := 1) rfl 0
    have f1 := HQ.out.frozen (i := 1) rfl 1
    have HLN : Hid ((pcL M n).length = N) := by show _ = _; rw [pcL_len]; exact HN.out
    clear s0 q0
    by_cases hz : N = 0
    · have hE : RE = if n > 4096 ∨ n < -4096 ∨ mayE (l.set 0 (max n (-n))) ≠ 0 then 17 else 0 := by rw [HRE.out, if_pos hz]
      have hP : pcL M n = [] := List.eq_nil_of_length_eq_zero (by rw [HLN.out]; exact hz)
      have HPP := Lib.hid hP
      have HB : Hid (∀ (U' : World) (vl : List Value), Sp Non w U' [Pt.row ⟨45, 2, some ⟨w.heap.size, 0, none⟩, 1, 1, [.slice sa sn sc, .slice aa an ac]⟩, Pt.row ⟨45, 2, some ⟨b1, 0, none⟩, 1, 1, [.slice none 0 0, .slice none 0 0]⟩] → ∀ u v, PiecesP w (pcL M n) [] [] 17 (.returned (.tuple #[.slice none 0 0, .agg #[.slice none 0 0, .slice none 0 0], .int .i64 17])) ((U'.setCell ⟨b1, 0, none⟩ u).setCell ⟨b1, 1, none⟩ v)) := fun U' vl hU u v => by
        rw [hP]
        have h := (((((hU.put (i := 1) rfl 0 u).put (i := 1) rfl 1 v).rowNil 93 2).arrNew (Ar.is_nil _) (Ar.own_nil _ _) (Below.refl _ _))).pick [2, 3] (by decide)
        exact ⟨none, 0, 0, ⟨none, 0, 0, none, 0, 0, [], []⟩, rfl, h, rfl, rfl, rfl⟩
      have hz1 : ¬ ((0 : Int) < N) := by omega
      have HRS1 : Hid (RE ≠ 0 → RS = [] ∧ RA = []) := fun h => ⟨by rw [HRS.out, if_neg (fun q => h q.1)], by rw [HRA.out, if_neg (fun q => h q.1)]⟩
      have HRS2 : Hid (RE = 0 → RS = l.set 0 (max n (-n)) ∧ RA = List.replicate (pr (l.set 0 (max n (-n)))).toNat 0) := fun h => ⟨by rw [HRS.out, if_pos ⟨h, hz⟩], by rw [HRA.out, if_pos ⟨h, hz⟩]⟩
      clear HRE HRS HRA
      by_cases hbig : n > 4096 ∨ n < -4096
      · have e0 : RE = 17 := by rw [hE, if_pos (by omega)]
        obtain ⟨e1, e2⟩ := HRS1.out (by omega)
        subst e0 e1 e2
        have HF : Hid (∀ u v, PiecesP w (pcL M n) [] [] 17 (.returned (.tuple #[.slice none 0 0, .agg #[.slice none 0 0, .slice none 0 0], .int .i64 17])) ((U.setCell ⟨b1, 0, none⟩ u).setCell ⟨b1, 1, none⟩ v)) := HB.out U [] (HQ.out.pick [0, 1] (by decide))
        clear hE hP hz HB
        rcases (show n > 4096 ∨ (¬ n > 4096 ∧ n < -4096) by omega) with hb1 | ⟨hb1, hb2⟩
        · have hb3 : (4096 : Int) < n := hb1
          clear hbig
          go_wp2
          exact bodyPost_ret (v := .tuple #[.slice none 0 0, .agg #[.slice none 0 0, .slice none 0 0], .int .i64 17]) (by simp [results, Try.results23, go_sem, *]) rfl (HF.out _ _)
        · have hb3 : ¬ (4096 : Int) < n := hb1
          clear hbig
          go_wp2
          exact bodyPost_ret (v := .tuple #[.slice none 0 0, .agg #[.slice none 0 0, .slice none 0 0], .int .i64 17]) (by simp [results, Try.results23, go_sem, *]) rfl (HF.out _ _)
      · have hb3 : ¬ (4096 : Int) < n := by omega
        have hb4 : ¬ n < -4096 := by omega
        have z1 : IntKind.i64.wrap (-n) = -n := IntWalk.i64_in _ (by omega)
        have hHR : ∀ i, -9223372036854775808 ≤ (l.set 0 (max n (-n))).getD i 0 ∧ (l.set 0 (max n (-n))).getD i 0 ≤ 9223372036854775807 := fun i => by
          have h := HL2.out.rng i
          simp only [List.getD, List.getElem?_set] at h ⊢
          split
          · split
            · simp; omega
            · simp
          · exact h
        have s0 := HQ.out.cell (i := 2) rfl 0 (.int .i64 M) (by rw [HCO.out]; rfl)
        have g0 := HQ.out.frozen (i := 2) rfl 0
        have H3_ := (HQ.out.put (i := 2) rfl 0 (.int .i64 (max n (-n)))).toInts (i := 2) (zs := l.set 0 (max n (-n))) (by rw [HCO.out]; rfl) (by omega) hHR
        try simp only [List.cons_append, List.nil_append, List.set_cons_zero, List.set_cons_succ, List.map_cons, List.map_nil, List.getD_cons_zero, List.getD_cons_succ, World.size_alloc] at H3_
        have H3 := Lib.hid H3_
        clear H3_
        have CY := Lib.hid (may_any (H3.out.ls (i := 2) rfl))
        by_cases hy : mayE (l.set 0 (max n (-n))) = 0
        · have e0 : RE = 0 := by rw [hE, if_neg (by simp only [hy]; omega)]
          obtain ⟨e1, e2⟩ := HRS2.out e0
          have CZ := Lib.hid (zeros_any (H3.out.ls (i := 2) rfl) hy)
          rw [hy] at CY
          subst e0 e1 e2
          clear hE hP hz HB hbig hy hHR
          go_wp2_with fail
          refine CY.out.mono ?_; rintro e w5 ⟨rfl, hw⟩
          have hw' := hw.symm
          subst hw'
          go_wp2_with fail
          refine CZ.out.mono ?_; rintro e w6 ⟨Z, rfl, hZI, hZs, hZa, hZO, hb6⟩
          have h6 := H3.out.arrNew hZI hZO hb6
          clear x0 x1 f0 f1
          have x0 := h6.cell (i := 1) rfl 0 _ rfl
          have x1 := h6.cell (i := 1) rfl 1 _ rfl
          have f0 := h6.frozen (i := 1) rfl 0
          have f1 := h6.frozen (i := 1) rfl 1
          have HF : Hid (∀ u v, PiecesP w (pcL M n) (l.set 0 (max n (-n))) (List.replicate (pr (l.set 0 (max n (-n)))).toNat 0) 0 (.returned (.tuple #[.slice none 0 0, Z.v, .int .i64 0])) ((w6.setCell ⟨b1, 0, none⟩ u).setCell ⟨b1, 1, none⟩ v)) := fun u v => by
            rw [HPP.out]
            exact ⟨none, 0, 0, Z, rfl, ((((h6.put (i := 1) rfl 0 u).put (i := 1) rfl 1 v).rowNil 93 2)).pick [5, 4] (by decide), rfl, hZs, hZa⟩
          simp only [Ar.v] at HF ⊢
          clear h6 hZI hZs hZa hZO hb6
          go_wp2
          exact bodyPost_ret (v := .tuple #[.slice none 0 0, .agg #[.slice Z.sa Z.sn Z.sc, .slice Z.aa Z.an Z.ac], .int .i64 0]) (by simp [results, Try.results23, go_sem, *]) rfl (HF.out _ _)
        · have e0 : RE = 17 := by rw [hE, if_pos (Or.inr (Or.inr hy))]
          obtain ⟨e1, e2⟩ := HRS1.out (by omega)
          subst e0 e1 e2
          obtain ⟨m, hmm⟩ : ∃ m, m = mayE (l.set 0 (max n (-n))) := ⟨_, rfl⟩
          rw [← hmm] at CY hy
          have q0 : (m != 0) = true := by simpa using hy
          have HF : Hid (∀ u v, PiecesP w (pcL M n) [] [] 17 (.returned (.tuple #[.slice none 0 0, .agg #[.slice none 0 0, .slice none 0 0], .int .i64 17])) (((U.setCell ⟨g, 0, none⟩ (.int .i64 (max n (-n)))).setCell ⟨b1, 0, none⟩ u).setCell ⟨b1, 1, none⟩ v)) := HB.out _ [] (H3.out.pick [0, 1] (by decide))
          have y0 := H3.out.cell (i := 1) rfl 0 _ rfl
          have y1 := H3.out.cell (i := 1) rfl 1 _ rfl
          have y2 := H3.out.frozen (i := 1) rfl 0
          have y3 := H3.out.frozen (i := 1) rfl 1
          clear hE hP hz HB hbig hy hHR hmm
          go_wp2_with fail
          refine CY.out.mono ?_; rintro e w5 ⟨rfl, hw⟩
          have hw' := hw.symm
          subst hw'
          go_wp2
          exact bodyPost_ret (v := .tuple #[.slice none 0 0, .agg #[.slice none 0 0, .slice none 0 0], .int .i64 17]) (by simp [results, Try.results23, go_sem, *]) rfl (HF.out _ _)
    · have eE : RE = 0 := by rw [HRE.out, if_neg hz]
      have eS : RS = [] := by rw [HRS.out, if_neg (fun h => hz h.2)]
      have eA : RA = [] := by rw [HRA.out, if_neg (fun h => hz h.2)]
      have HF : Hid (∀ u v, PiecesP w (pcL M n) RS RA RE (.returned (.tuple #[.slice po N pc, .agg #[.slice none 0 0, .slice none 0 0], .int .i64 0])) ((U.setCell ⟨b1, 0, none⟩ u).setCell ⟨b1, 1, none⟩ v)) := fun u v => by
        rw [eE, eS, eA]
        have h := ((((HQ.out.put (i := 1) rfl 0 u).put (i := 1) rfl 1 v).arrNew (Ar.is_nil _) (Ar.own_nil _ _) (Below.refl _ _))).pick [3, 4] (by decide)
        exact ⟨po, N, pc, ⟨none, 0, 0, none, 0, 0, [], []⟩, rfl, h, HLN.out, rfl, rfl⟩
      have hz1 : (0 : Int) < N := by omega
      clear eE eS eA hz
      go_wp2
      exact bodyPost_ret (v := .tuple #[.slice po N pc, .agg #[.slice none 0 0, .slice none 0 0], .int .i64 0]) (by simp [results, Try.results23, go_sem, *]) rfl (HF.out _ _)
theorem pieces_any {w : World} {A : Ar} (hA : A.Is w) (n : Int) (hn : -9223372036854775808 ≤ n ∧ n ≤ 9223372036854775807) :
    Calls Try.prog 23 #[A.v, .int .i64 n] w (PiecesP w (pcP A.s A.a n) (pcS A.s A.a n) (pcA A.s A.a n) (pcE A.s A.a n)) := by
  by_cases hm : amE A.s A.a = 0
  · by_cases h0 : n = 0
    · have h := pieces_zero hA n hm h0
      have e1 : pcE A.s A.a n = 10 := by unfold pcE; rw [if_pos hm, if_pos h0]
      have e2 : pcP A.s A.a n = [] := by unfold pcP; rw [if_neg (fun q => q.2 h0)]
      rw [pcS, pcA, e1, e2, if_neg (fun q => absurd q.1 (by decide)), if_neg (fun q => absurd q.1 (by decide))]
      exact h
    · exact pieces_ok hA n hn h0 hm
  · have h := pieces_bad hA n hm
    have e1 : pcE A.s A.a n = 1 := by unfold pcE; rw [if_neg hm]
    have e2 : pcP A.s A.a n = [] := by unfold pcP; rw [if_neg (fun q => hm q.1)]
    rw [pcS, pcA, e1, e2, if_neg (fun q => absurd q.1 (by decide)), if_neg (fun q => absurd q.1 (by decide))]
    exact h
end Go.Proofs.Ythackmkdicpdeaa

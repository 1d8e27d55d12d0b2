/- CellParts: plain laws, and the walk of the statement's function. -/
import Derived.Test.YtfmabpdkjhlihaaCellLaws
import Derived.Deep.CutBlock
import Derived.BigGuard
import Derived.BigCall
import Derived.Deep.CutRange
namespace Go.Proofs.Ytfmabpdkjhlihaa
open Go.RowKit Go.Lib
set_option linter.unusedVariables false
set_option linter.unusedSimpArgs false
attribute [local go_sem] alloc_drewN setCell_drewN
theorem parts_plain {s a : List Int} (hm : amE s a = 0) : ∃ M K : Nat, ltN s = M ∧ ltK s = K ∧ M * K = a.length ∧ M ≤ 4096 := by
  obtain ⟨m1, m2⟩ := amE_zero hm
  obtain ⟨l1, l2⟩ := lsdL_may m1
  have hc : lsdL s = [ltN s] ++ (lsdL s).drop 1 := lsdL_cons s
  rw [hc] at l1
  obtain ⟨q1, q2⟩ := mayE_app l1
  have b1 := pr_nonneg q1
  have b2 := pr_nonneg q2
  have e1 : pr [ltN s] = ltN s := by rw [pr_cons]; simp [pr]
  rw [e1] at b1
  have e2 : pr (lsdL s) = ltN s * ltK s := by
    conv => lhs; rw [hc]
    rw [pr_app, e1]; rfl
  have b3 : 0 ≤ ltK s := b2.1
  refine ⟨(ltN s).toNat, (ltK s).toNat, by omega, by omega, ?_, by omega⟩
  rw [l2, m2] at e2
  have : (((ltN s).toNat * (ltK s).toNat : Nat) : Int) = a.length := by push_cast; rw [Int.toNat_of_nonneg b1.1, Int.toNat_of_nonneg b3]; exact e2.symm
  omega
theorem pt_in {s a : List Int} {M K F N : Nat} (hm : amE s a = 0) (hM : ltN s = M) (hK : ltK s = K) (h : F + N ≤ M) {f n : Int} (hf : f = F) (hn : n = N) :
    ptE s a f n = 0 ∧ ptS s a f n = (lsdL s).set 0 n ∧ ptA s a f n = (a.drop (F * K)).take (N * K) := by
  have e : ptE s a f n = 0 := by unfold ptE; rw [if_pos hm, if_neg (by omega)]
  refine ⟨e, by unfold ptS; rw [if_pos e], ?_⟩
  unfold ptA
  rw [if_pos e, hK, hf, hn]
  norm_cast
theorem pt_out {s a : List Int} {M : Nat} (hm : amE s a = 0) (hM : ltN s = M) {f n : Int} (h : ¬ (0 ≤ f ∧ 0 ≤ n ∧ f ≤ M ∧ n ≤ M - f)) : ptE s a f n = 13 := by
  unfold ptE; rw [if_pos hm, if_pos (by omega)]
theorem cut3 (a : List Int) {F N R K : Nat} (h : (F + N + R) * K = a.length) : ((a.drop (0 * K)).take (F * K) ++ (a.drop (F * K)).take (N * K)) ++ (a.drop ((F + N) * K)).take (R * K) = a := by
  rw [Nat.zero_mul, List.drop_zero, ← List.take_add, ← Nat.add_mul, ← List.take_add, ← Nat.add_mul, h, List.take_length]
/-- Where the k-th piece begins. -/
def nxP (M n : Int) (k : Nat) : Int := if 0 < n then (if k = 0 then 0 else k - 1 + n) else min (k * (-n)) M
def mst (n : Int) : Int := if -5000 < n then -n else 5000
theorem pcs_up {M n : Int} (hM : 0 ≤ M ∧ M ≤ 4096) (hn : 0 < n) (k : Nat) (hk : k < pcN M n) : (pcL M n)[k]? = some ((k : Int), n) ∧ (k : Int) + n = nxP M n (k + 1) ∧ (k : Int) + n ≤ 4096 := by
  have h1 := (pcN_up hn k).1 hk
  refine ⟨?_, ?_, by omega⟩
  · unfold pcL pcUp
    rw [if_pos hn, List.getElem?_map, List.getElem?_range hk]; rfl
  · unfold nxP
    rw [if_pos hn, if_neg (by omega)]; push_cast; omega
theorem pcs_dn {M n : Int} (hM : 0 ≤ M ∧ M ≤ 4096) (hn : n < 0) (k : Nat) (hk : k < pcN M n) : ∃ x y, (pcL M n)[k]? = some (x, y) ∧ x + y = nxP M n (k + 1) ∧ x = nxP M n k ∧ 1 ≤ y ∧ y ≤ mst n ∧ (k + 1 < pcN M n → y = mst n) ∧ 0 ≤ x ∧ x + y ≤ 4096 := by
  have h1 := (pcN_dn hn k).1 hk
  have h2 := pcN_dn (m := M) hn (k + 1)
  obtain ⟨d, hd⟩ : ∃ d, d = -n := ⟨_, rfl⟩
  rw [← hd] at h1 h2
  have h3 : ((k + 1 : Nat) : Int) * d = (k : Int) * d + d := by push_cast; rw [Int.add_mul]; omega
  rw [h3] at h2
  have h4 : 0 ≤ (k : Int) * d := Int.mul_nonneg (by omega) (by omega)
  have h5 : 5000 ≤ d → (k : Int) * d = 0 := fun h => by
    rcases Nat.eq_zero_or_pos k with e | e
    · rw [e]; simp
    · have : (1 : Int) * d ≤ (k : Int) * d := Int.mul_le_mul_of_nonneg_right (by omega) (by omega)
      omega
  refine ⟨(k : Int) * d, min d (M - (k : Int) * d), ?_, ?_, ?_, by omega, ?_, fun h => ?_, h4, by omega⟩
  · unfold pcL pcDn
    rw [if_neg (by omega), List.getElem?_map, List.getElem?_range hk, hd]; rfl
  · unfold nxP
    rw [if_neg (by omega), ← hd, h3]; omega
  · unfold nxP
    rw [if_neg (by omega), ← hd]; omega
  · unfold mst; split <;> omega
  · have := h2.1 h
    unfold mst; split <;> omega
theorem nxP_end {M n : Int} (hM : 0 ≤ M ∧ M ≤ 4096) (hn : n ≠ 0) (h : 0 < pcN M n) : nxP M n (pcN M n) = M := by
  unfold nxP
  by_cases hp : 0 < n
  · rw [if_pos hp, if_neg (by omega)]
    have h1 := pcN_up (m := M) hp (pcN M n)
    have h2 := (pcN_up (m := M) hp (pcN M n - 1)).1 (by omega)
    omega
  · rw [if_neg hp]
    have h1 := pcN_dn (m := M) (show n < 0 by omega) (pcN M n)
    omega
theorem nxP_zero {M n : Int} (hM : 0 ≤ M) : nxP M n 0 = 0 := by unfold nxP; split <;> simp; omega
/-- No pieces at all. -/
theorem pc_none {M n : Int} (hM : 0 ≤ M) (hn : n ≠ 0) (h : pcN M n = 0) : (0 < n ∧ M < n) ∨ (n < 0 ∧ M = 0) := by
  by_cases hp : 0 < n
  · have := pcN_up (m := M) hp 0; omega
  · have := pcN_dn (m := M) (show n < 0 by omega) 0; right; constructor; omega
    have h2 : ¬ ((0 : Nat) : Int) * (-n) < M := fun h3 => by have := this.2 h3; omega
    simp at h2; omega
theorem Ls.cell0 {w : World} {b off n c : Nat} {zs : List Int} (h : Ls w (some ⟨b, off, none⟩) n c zs) (hn : 0 < n) {x : Int} (e : zs.getD 0 0 = x) : w.cell? ⟨b, off, none⟩ = some (.int .i64 x) := by
  obtain ⟨b', o', e', hc⟩ := h.at hn
  cases e'
  have := hc 0 hn
  rw [Nat.add_zero, e] at this
  exact this
theorem Pcs.cellAt {w : World} {b n c : Nat} {l : List (Int × Int)} (h : Pcs w (some ⟨b, 0, none⟩) n c l) {i : Nat} {x y : Int} (hx : l[i]? = some (x, y)) (hi : i < n) : w.cell? ⟨b, i * 2, none⟩ = some (.int .i64 x) ∧ w.cell? ⟨b, i * 2 + 1, none⟩ = some (.int .i64 y) := by
  obtain ⟨b', o', e', -, hc⟩ := h.mem (by omega)
  cases e'
  have := hc i _ hx
  rwa [Nat.zero_add] at this
theorem pc_plain {s a : List Int} {M : Nat} (hm : amE s a = 0) (hM : ltN s = M) (g : Int) : (g = 0 → pcE s a g = 10) ∧
    (g ≠ 0 → pcN M g = 0 → pcP s a g = [] ∧ (pcE s a g = 17 ∨ (pcE s a g = 0 ∧ -4096 ≤ g ∧ g ≤ 4096 ∧ pcS s a g = (lsdL s).set 0 (max g (-g))))) ∧
    (g ≠ 0 → pcN M g ≠ 0 → pcE s a g = 0 ∧ pcP s a g = pcL M g ∧ pcS s a g = [] ∧ pcA s a g = []) := by
  refine ⟨fun h => by unfold pcE; rw [if_pos hm, if_pos h], fun h0 hN => ?_, fun h0 hN => ?_⟩
  · have hl : (pcL (ltN s) g).length = 0 := by rw [hM, pcL_len]; exact hN
    have hp : pcP s a g = [] := by unfold pcP; rw [if_pos ⟨hm, h0⟩]; exact List.length_eq_zero_iff.1 hl
    refine ⟨hp, ?_⟩
    have he : pcE s a g = if g > 4096 ∨ g < -4096 ∨ mayE (pcT s g) ≠ 0 then 17 else 0 := by unfold pcE; rw [if_pos hm, if_neg h0, if_pos hl]
    by_cases hc : g > 4096 ∨ g < -4096 ∨ mayE (pcT s g) ≠ 0
    · left; rw [he, if_pos hc]
    · right
      rw [if_neg hc] at he
      refine ⟨he, by omega, by omega, ?_⟩
      unfold pcS
      rw [if_pos ⟨he, hl⟩]; rfl
  · have hl : ¬ (pcL (ltN s) g).length = 0 := by rw [hM, pcL_len]; exact hN
    have he : pcE s a g = 0 := by unfold pcE; rw [if_pos hm, if_neg h0, if_neg hl]
    refine ⟨he, by unfold pcP; rw [if_pos ⟨hm, h0⟩, hM], by unfold pcS; rw [if_neg (fun h => hl h.2)], by unfold pcA; rw [if_neg (fun h => hl h.2)]⟩
set_option maxRecDepth 100000 in
set_option maxHeartbeats 3200000 in
theorem parts_bad {w : World} {A : Ar} (hA : A.Is w) {f : Int} {n : Int} {g : Int} (hm : amE A.s A.a ≠ 0) :
    Calls Try.prog 4 #[A.v, .int .i64 f, .int .i64 n, .int .i64 g] w (RetB w (.bool true)) := by
  obtain ⟨sa, sn, sc, aa, an, ac, s, a⟩ := A
  simp only [Ar.v]
  simp only at hm
  obtain ⟨W, HW⟩ : ∃ z, Hid (w.alloc (.cells #[.slice sa sn sc, .slice aa an ac] 25) = z) := ⟨_, rfl⟩
  have h0 := ((Sp.start Non w).alloc 25 2 1 #[.slice sa sn sc, .slice aa an ac] rfl (by decide))
  rw [HW.out] at h0
  have H0_ := h0
  try simp only [List.cons_append, List.nil_append, List.set_cons_zero, List.set_cons_succ, List.map_cons, List.map_nil, List.getD_cons_zero, List.getD_cons_succ, World.size_alloc] at H0_
  have H0 := Lib.hid H0_
  clear H0_
  have HA := Lib.hid hA
  have BG := Lib.hid (begun4_any W)
  obtain ⟨i0, hi0, hz0, hz1, hz2⟩ := info_parts (P := Try.prog) (e := 3) (z := .int .i64 0) (size := 1) (bytes := 8) (by kernel_rfl)
  obtain ⟨i6, hj0, hj1, hj2, hj3⟩ := info_parts (P := Try.prog) (e := 2) (z := .int .i64 0) (size := 1) (bytes := 8) (by kernel_rfl)
  have HI0 := Lib.hid (And.intro hi0 (And.intro hz0 (And.intro hz1 hz2)))
  have HI6 := Lib.hid (And.intro hj0 (And.intro hj1 (And.intro hj2 hj3)))
  have hsb : sn * 8 ≤ 140737488351232 := hA.shp.big
  have hsl : s.length = sn := hA.shp.len
  have hal : a.length = an := hA.ats.len
  have hab : an * 8 ≤ 140737488351232 := hA.ats.big
  obtain ⟨L, HL⟩ : ∃ z, Hid (lsdL s = z) := ⟨_, rfl⟩
  have hL0 : sn = 0 → L = [1] := fun h => by rw [← HL.out]; unfold lsdL; rw [if_pos (by omega)]
  have hL1 : sn ≠ 0 → L = s := fun h => by rw [← HL.out]; unfold lsdL; rw [if_neg (by omega)]
  have HL01 := Lib.hid (And.intro hL0 hL1)
  have hb1 : (0 + sn) * 8 ≤ 140737488351232 := by omega
  obtain ⟨ey, HEY⟩ : ∃ z, Hid (mayE s = z) := ⟨_, rfl⟩
  obtain ⟨ez, HEZ⟩ : ∃ z, Hid (szE s = z) := ⟨_, rfl⟩
  have hbad : ey ≠ 0 ∨ ez ≠ an := by have := amE_bad hm; rw [HEY.out, HEZ.out, hal] at this; exact this
  have HM := Lib.hid hm
  clear hA hm h0
  go_enter Try.func4, Try.ntmps4
  go_wp2_with fail
  rw [HW.out]
  refine BG.out.mono ?_; rintro e w1 ⟨rfl, hb1'⟩
  have H1_ := (H0.out.via hb1').intsNew (E := 3) (zs := []) (World.ownsRow_nil _ _ _ _) (Below.refl _ _) (by omega) (fun i => by simp [List.getD])
  try simp only [List.cons_append, List.nil_append, List.set_cons_zero, List.set_cons_succ, List.map_cons, List.map_nil, List.getD_cons_zero, List.getD_cons_succ, World.size_alloc] at H1_
  have H1 := Lib.hid H1_
  clear H1_
  have y0 := H1.out.cell (i := 0) rfl 0 _ rfl
  have LS : Hid (Ls w1 sa sn sc s) := HA.out.shp.below H1.out.belowN (Nat.le_refl _)
  clear hb1' BG H0
  go_wp2_with (at_builtin; refine Sp.wpList_loc (i := 1) H1.out rfl _ _ 22 rfl 3 i0 Try.underlying22 HI0.out.1 HI0.out.2.1 HI0.out.2.2.1 HI0.out.2.2.2 rfl rfl rfl LS.out hb1 ?_)
  intro so0 d0 w2 h2
  try simp only [Nat.zero_add, List.nil_append, List.set_cons_zero, List.set_cons_succ] at h2
  have H2 := Lib.hid h2
  clear h2 H1 LS y0
  go_upto_if 34 with fail
  go_cut [9] from 34 to 37 (fun (v : Value) (wx : World) => ∃ (so : Option Addr) (n' d : Nat), v = Value.slice so n' d ∧ Hid (Sp Non w wx [Pt.row ⟨25, 2, some ⟨w.heap.size, 0, none⟩, 1, 1, [.slice sa sn sc, .slice aa an ac]⟩, Pt.ints 3 so n' d L]))
  case first =>
    by_cases hn0 : sn = 0
    · obtain rfl := hn0
      have hs0 : s = [] := List.length_eq_zero_iff.1 hsl
      have H3_ := H2.out.via (abal w2 (.cells #[.int .i64 1] 3))
      try simp only [List.cons_append, List.nil_append, List.set_cons_zero, List.set_cons_succ, List.map_cons, List.map_nil, List.getD_cons_zero, List.getD_cons_succ, World.size_alloc] at H3_
      have H3 := Lib.hid H3_
      clear H3_
      have LT := Lib.hid (ints_lit w2 [1] 3 #[.int .i64 1] rfl (by decide) 1 rfl)
      go_wp2_with (at_builtin; refine Sp.wpList_loc (i := 1) H3.out rfl _ _ 22 rfl 3 i0 Try.underlying22 HI0.out.1 HI0.out.2.1 HI0.out.2.2.1 HI0.out.2.2.2 rfl rfl rfl LT.out (by omega) ?_)
      intro so d w3 h3
      have H4 : Hid (Sp Non w w3 [Pt.row ⟨25, 2, some ⟨w.heap.size, 0, none⟩, 1, 1, [.slice sa 0 sc, .slice aa an ac]⟩, Pt.ints 3 so 1 d L]) := by
        rw [HL01.out.1 (by simp)]
        first
        | exact h3
        | (rw [hs0] at h3; exact h3)
      clear h3
      go_wp2_with fail
      go_meet
      exact ⟨_, _, _, rfl, H4⟩
    · have q0 : ((sn : Int) == 0) = false := by simpa using hn0
      have H4 : Hid (Sp Non w w2 [Pt.row ⟨25, 2, some ⟨w.heap.size, 0, none⟩, 1, 1, [.slice sa sn sc, .slice aa an ac]⟩, Pt.ints 3 so0 sn d0 L]) := by
        rw [HL01.out.2 hn0]; exact H2.out
      clear hn0
      go_wp2_with fail
      go_meet
      exact ⟨_, _, _, rfl, H4⟩
  case rest =>
  obtain ⟨so, n', d, rfl, H3⟩ := hcut
  obtain ⟨U, hU⟩ : ∃ z : World, z = wc := ⟨_, rfl⟩
  subst hU
  have hll : L.length = n' := (H3.out.ls (i := 1) rfl).len
  have hlp : 0 < n' := by rw [← hll, ← HL.out]; exact lsdL_len s
  obtain ⟨sg, so', hso, hcs⟩ := (H3.out.ls (i := 1) rfl).at hlp
  subst hso
  have c0 := hcs 0 hlp
  rw [Nat.add_zero] at c0
  clear hcs H2
  obtain ⟨M, hM⟩ : ∃ M, L.getD 0 0 = M := ⟨_, rfl⟩
  have hMr := (H3.out.ls (i := 1) rfl).rng 0
  rw [hM] at c0 hMr
  have cp := part_any (HA.out.below H3.out.belowN (Nat.le_refl _)) 0 M (by omega) hMr
  have e1 : ptE s a 0 M = 1 := by unfold ptE; rw [if_neg HM.out]
  have e2 : ptS s a 0 M = [] := by unfold ptS; rw [e1, if_neg (by decide)]
  have e3 : ptA s a 0 M = [] := by unfold ptA; rw [e1, if_neg (by decide)]
  simp only [Ar.v, e1, e2, e3] at cp
  have CP := Lib.hid cp
  have y0 := H3.out.cell (i := 0) rfl 0 _ rfl
  have y1 := H3.out.cell (i := 0) rfl 1 _ rfl
  clear cp e1 e2 e3
  go_wp2_with fail
  refine CP.out.mono ?_; rintro e w4 ⟨⟨ma, mn, mc, na, nn, nc, ms, ns⟩, rfl, hI, hs, ha, hO, hb⟩
  simp only [Ar.v] at *
  have H4_ := (H3.out.arrNew hI hO hb).alloc 25 2 1 #[.slice ma mn mc, .slice na nn nc] rfl (by decide)
  try simp only [List.cons_append, List.nil_append, List.set_cons_zero, List.set_cons_succ, List.map_cons, List.map_nil, List.getD_cons_zero, List.getD_cons_succ, World.size_alloc] at H4_
  have H4 := Lib.hid H4_
  clear H4_
  have cs := size_any (HA.out.shp.below H4.out.belowN (Nat.le_refl _))
  simp only [HEY.out, HEZ.out] at cs
  have CS := Lib.hid cs
  clear y0 y1 hI hs ha hO hb cs CP c0
  have y0 := H4.out.cell (i := 0) rfl 0 _ rfl
  have y1 := H4.out.cell (i := 0) rfl 1 _ rfl
  go_wp2_with fail
  refine CS.out.mono ?_; rintro e w3 ⟨rfl, hw3⟩
  have hw3' := hw3.symm
  subst hw3'
  have HF := Lib.hid (RetB.mk (w := w) (v := .bool true) (v' := .bool true) rfl H4.out.belowN)
  by_cases hey : ey = 0
  · have q0 : (ez != an) = true := by rcases hbad with h | h; exact absurd hey h; simpa using h
    subst hey
    go_wp2
    go_ret
    exact HF.out
  · have q0 : (ey != 0) = true := by simpa using hey
    go_wp2
    go_ret
    exact HF.out
set_option maxRecDepth 100000 in
set_option maxHeartbeats 6400000 in
theorem parts_ok {w : World} {A : Ar} (hA : A.Is w) {f : Int} (hf : -9223372036854775808 ≤ f ∧ f ≤ 9223372036854775807) {n : Int} (hn : -9223372036854775808 ≤ n ∧ n ≤ 9223372036854775807) {g : Int} (hg : -9223372036854775808 ≤ g ∧ g ≤ 9223372036854775807) (hm : amE A.s A.a = 0) :
    Calls Try.prog 4 #[A.v, .int .i64 f, .int .i64 n, .int .i64 g] w (RetB w (.bool true)) := by
  obtain ⟨sa, sn, sc, aa, an, ac, s, a⟩ := A
  simp only [Ar.v]
  simp only at hm
  obtain ⟨W, HW⟩ : ∃ z, Hid (w.alloc (.cells #[.slice sa sn sc, .slice aa an ac] 25) = z) := ⟨_, rfl⟩
  have h0 := ((Sp.start Non w).alloc 25 2 1 #[.slice sa sn sc, .slice aa an ac] rfl (by decide))
  rw [HW.out] at h0
  have H0_ := h0
  try simp only [List.cons_append, List.nil_append, List.set_cons_zero, List.set_cons_succ, List.map_cons, List.map_nil, List.getD_cons_zero, List.getD_cons_succ, World.size_alloc] at H0_
  have H0 := Lib.hid H0_
  clear H0_
  have HA := Lib.hid hA
  have BG := Lib.hid (begun4_any W)
  obtain ⟨i0, hi0, hz0, hz1, hz2⟩ := info_parts (P := Try.prog) (e := 3) (z := .int .i64 0) (size := 1) (bytes := 8) (by kernel_rfl)
  obtain ⟨i6, hj0, hj1, hj2, hj3⟩ := info_parts (P := Try.prog) (e := 2) (z := .int .i64 0) (size := 1) (bytes := 8) (by kernel_rfl)
  have HI0 := Lib.hid (And.intro hi0 (And.intro hz0 (And.intro hz1 hz2)))
  have HI6 := Lib.hid (And.intro hj0 (And.intro hj1 (And.intro hj2 hj3)))
  have hsb : sn * 8 ≤ 140737488351232 := hA.shp.big
  have hsl : s.length = sn := hA.shp.len
  have hal : a.length = an := hA.ats.len
  have hab : an * 8 ≤ 140737488351232 := hA.ats.big
  obtain ⟨L, HL⟩ : ∃ z, Hid (lsdL s = z) := ⟨_, rfl⟩
  have hL0 : sn = 0 → L = [1] := fun h => by rw [← HL.out]; unfold lsdL; rw [if_pos (by omega)]
  have hL1 : sn ≠ 0 → L = s := fun h => by rw [← HL.out]; unfold lsdL; rw [if_neg (by omega)]
  have HL01 := Lib.hid (And.intro hL0 hL1)
  have hb1 : (0 + sn) * 8 ≤ 140737488351232 := by omega
  obtain ⟨M, K, hM, hK, hMK, hMb⟩ := parts_plain hm
  have HM := Lib.hid (And.intro hm (And.intro hM (And.intro hK hMK)))
  clear hA hm h0 hM hK hMK
  go_enter Try.func4, Try.ntmps4
  go_wp2_with fail
  rw [HW.out]
  refine BG.out.mono ?_; rintro e w1 ⟨rfl, hb1'⟩
  have H1_ := (H0.out.via hb1').intsNew (E := 3) (zs := []) (World.ownsRow_nil _ _ _ _) (Below.refl _ _) (by omega) (fun i => by simp [List.getD])
  try simp only [List.cons_append, List.nil_append, List.set_cons_zero, List.set_cons_succ, List.map_cons, List.map_nil, List.getD_cons_zero, List.getD_cons_succ, World.size_alloc] at H1_
  have H1 := Lib.hid H1_
  clear H1_
  have y0 := H1.out.cell (i := 0) rfl 0 _ rfl
  have LS : Hid (Ls w1 sa sn sc s) := HA.out.shp.below H1.out.belowN (Nat.le_refl _)
  clear hb1' BG H0
  go_wp2_with (at_builtin; refine Sp.wpList_loc (i := 1) H1.out rfl _ _ 22 rfl 3 i0 Try.underlying22 HI0.out.1 HI0.out.2.1 HI0.out.2.2.1 HI0.out.2.2.2 rfl rfl rfl LS.out hb1 ?_)
  intro so0 d0 w2 h2
  try simp only [Nat.zero_add, List.nil_append, List.set_cons_zero, List.set_cons_succ] at h2
  have H2 := Lib.hid h2
  clear h2 H1 LS y0
  go_upto_if 34 with fail
  go_cut [9] from 34 to 37 (fun (v : Value) (wx : World) => ∃ (so : Option Addr) (n' d : Nat), v = Value.slice so n' d ∧ Hid (Sp Non w wx [Pt.row ⟨25, 2, some ⟨w.heap.size, 0, none⟩, 1, 1, [.slice sa sn sc, .slice aa an ac]⟩, Pt.ints 3 so n' d L]))
  case first =>
    by_cases hn0 : sn = 0
    · obtain rfl := hn0
      have hs0 : s = [] := List.length_eq_zero_iff.1 hsl
      have H3_ := H2.out.via (abal w2 (.cells #[.int .i64 1] 3))
      try simp only [List.cons_append, List.nil_append, List.set_cons_zero, List.set_cons_succ, List.map_cons, List.map_nil, List.getD_cons_zero, List.getD_cons_succ, World.size_alloc] at H3_
      have H3 := Lib.hid H3_
      clear H3_
      have LT := Lib.hid (ints_lit w2 [1] 3 #[.int .i64 1] rfl (by decide) 1 rfl)
      go_wp2_with (at_builtin; refine Sp.wpList_loc (i := 1) H3.out rfl _ _ 22 rfl 3 i0 Try.underlying22 HI0.out.1 HI0.out.2.1 HI0.out.2.2.1 HI0.out.2.2.2 rfl rfl rfl LT.out (by omega) ?_)
      intro so d w3 h3
      have H4 : Hid (Sp Non w w3 [Pt.row ⟨25, 2, some ⟨w.heap.size, 0, none⟩, 1, 1, [.slice sa 0 sc, .slice aa an ac]⟩, Pt.ints 3 so 1 d L]) := by
        rw [HL01.out.1 (by simp)]
        first
        | exact h3
        | (rw [hs0] at h3; exact h3)
      clear h3
      go_wp2_with fail
      go_meet
      exact ⟨_, _, _, rfl, H4⟩
    · have q0 : ((sn : Int) == 0) = false := by simpa using hn0
      have H4 : Hid (Sp Non w w2 [Pt.row ⟨25, 2, some ⟨w.heap.size, 0, none⟩, 1, 1, [.slice sa sn sc, .slice aa an ac]⟩, Pt.ints 3 so0 sn d0 L]) := by
        rw [HL01.out.2 hn0]; exact H2.out
      clear hn0
      go_wp2_with fail
      go_meet
      exact ⟨_, _, _, rfl, H4⟩
  case rest =>
  obtain ⟨so, n', d, rfl, H3⟩ := hcut
  obtain ⟨U, hU⟩ : ∃ z : World, z = wc := ⟨_, rfl⟩
  subst hU
  have hll : L.length = n' := (H3.out.ls (i := 1) rfl).len
  have hlp : 0 < n' := by rw [← hll, ← HL.out]; exact lsdL_len s
  obtain ⟨sg, so', hso, hcs⟩ := (H3.out.ls (i := 1) rfl).at hlp
  subst hso
  have c0 := hcs 0 hlp
  rw [Nat.add_zero] at c0
  clear hcs H2
  have hLM : L.getD 0 0 = M := by rw [← HL.out]; exact HM.out.2.1
  rw [hLM] at c0
  obtain ⟨p1, p2, p3⟩ := pt_in (F := 0) (N := M) HM.out.1 HM.out.2.1 HM.out.2.2.1 (by omega) (f := 0) (n := M) rfl rfl
  have hset : (lsdL s).set 0 (M : Int) = L := by
    have h := lsdL_cons s
    rw [HM.out.2.1] at h
    rw [h, List.set_cons_zero, ← h, HL.out]
  rw [hset] at p2
  rw [Nat.zero_mul, List.drop_zero, HM.out.2.2.2, List.take_length] at p3
  have cp := part_any (HA.out.below H3.out.belowN (Nat.le_refl _)) 0 (M : Int) (by omega) (by omega)
  simp only [Ar.v] at cp
  rw [p1, p2, p3] at cp
  have CP := Lib.hid cp
  have y0 := H3.out.cell (i := 0) rfl 0 _ rfl
  have y1 := H3.out.cell (i := 0) rfl 1 _ rfl
  clear cp
  go_wp2_with fail
  refine CP.out.mono ?_; rintro e w4 ⟨⟨pa, pn, pc, pb, pm, pd, ps, pt⟩, rfl, hI, hs, ha, hO, hb⟩
  simp only at hs ha
  simp only [Ar.v]
  have H4_ := (H3.out.arrNew hI hO hb).alloc 25 2 1 #[.slice pa pn pc, .slice pb pm pd] rfl (by decide)
  try simp only [List.cons_append, List.nil_append, List.set_cons_zero, List.set_cons_succ, List.map_cons, List.map_nil, List.getD_cons_zero, List.getD_cons_succ, World.size_alloc] at H4_
  have H4 := Lib.hid H4_
  clear H4_
  have HA1 := Lib.hid (And.intro hs ha)
  clear y0 y1 hI hs ha hO hb CP
  have ce := eqints_any (H4.out.isA (i := 2) rfl).shp (H4.out.ls (i := 1) rfl)
  simp only [HA1.out.1, decide_true] at ce
  have CE := Lib.hid ce
  have x0 := H4.out.cell (i := 3) rfl 0 _ rfl
  clear ce c0 p1 p2 p3 hset
  go_wp2_with fail
  refine CE.out.mono ?_; rintro e w5 ⟨rfl, n5, hq⟩
  have H5 := Lib.hid (H4.out.via (show Below _ _ w5 from by rw [hq]; exact adrew _ _))
  have ce := eqatoms4_any (H5.out.isA (i := 2) rfl).ats (HA.out.ats.below H5.out.belowN (Nat.le_refl _))
  simp only [HA1.out.2, decide_true] at ce
  clear CE hq x0
  have CE := Lib.hid ce
  have x1 := H5.out.cell (i := 3) rfl 1 _ rfl
  have y1 := H5.out.cell (i := 0) rfl 1 _ rfl
  clear ce
  go_wp2_with fail
  refine CE.out.mono ?_; rintro e w6 ⟨rfl, n6, hq⟩
  have h6 := (H5.out.via (show Below _ _ w6 from by rw [hq]; exact adrew _ _)).pick [0, 1] (by decide)
  have H6 : Hid (Sp Non w w6 [Pt.row ⟨25, 2, some ⟨w.heap.size, 0, none⟩, 1, 1, [.slice sa sn sc, .slice aa an ac]⟩, Pt.ints 3 (some ⟨sg, so', none⟩) n' d L]) := h6
  clear hq h6 CE x1 y1 H4 H5 HA1
  obtain ⟨E, HE⟩ : ∃ z, Hid (ptE s a f n = z) := ⟨_, rfl⟩
  obtain ⟨S1, HS1⟩ : ∃ z, Hid (ptS s a f n = z) := ⟨_, rfl⟩
  obtain ⟨A1, HA1⟩ : ∃ z, Hid (ptA s a f n = z) := ⟨_, rfl⟩
  have cp := part_any (HA.out.below H6.out.belowN (Nat.le_refl _)) f n hf hn
  simp only [Ar.v] at cp
  rw [HE.out, HS1.out, HA1.out] at cp
  have CP := Lib.hid cp
  have y0 := H6.out.cell (i := 0) rfl 0 _ rfl
  have y1 := H6.out.cell (i := 0) rfl 1 _ rfl
  clear cp
  go_wp2_with fail
  refine CP.out.mono ?_; rintro e w7 ⟨⟨ra, rn, rc, rb, rm, rd, rs, rt⟩, rfl, hI, hs, ha, hO, hb⟩
  simp only at hs ha
  simp only [Ar.v]
  have H7_ := (H6.out.arrNew hI hO hb).alloc 25 2 1 #[.slice ra rn rc, .slice rb rm rd] rfl (by decide)
  try simp only [List.cons_append, List.nil_append, List.set_cons_zero, List.set_cons_succ, List.map_cons, List.map_nil, List.getD_cons_zero, List.getD_cons_succ, World.size_alloc] at H7_
  have H7 := Lib.hid H7_
  clear H7_
  have HP := Lib.hid (And.intro hs ha)
  clear y0 y1 hI hs ha hO hb CP
  go_upto_if 89 with fail
  go_cut [17, 18, 19, 20] from 89 to 167 (fun (v17 v18 v19 v20 : Value) (wx : World) => Hid (Sp Non w wx [Pt.row ⟨25, 2, some ⟨w.heap.size, 0, none⟩, 1, 1, [.slice sa sn sc, .slice aa an ac]⟩, Pt.ints 3 (some ⟨sg, so', none⟩) n' d L]))
  case first =>
    by_cases hin : 0 ≤ f ∧ 0 ≤ n ∧ f ≤ M ∧ n ≤ M - f
    · obtain ⟨F0, hF0⟩ : ∃ F0 : Nat, f = F0 := ⟨f.toNat, by omega⟩
      obtain ⟨N0, hN0⟩ : ∃ N0 : Nat, n = N0 := ⟨n.toNat, by omega⟩
      obtain ⟨R0, hR0⟩ : ∃ R0 : Nat, M = F0 + N0 + R0 := ⟨M - F0 - N0, by omega⟩
      have u1 := pt_in (F := F0) (N := N0) HM.out.1 HM.out.2.1 HM.out.2.2.1 (by omega) hF0 hN0
      have u2 := pt_in (F := 0) (N := F0) HM.out.1 HM.out.2.1 HM.out.2.2.1 (by omega) (f := 0) (n := f) rfl hF0
      have u3 := pt_in (F := F0 + N0) (N := R0) HM.out.1 HM.out.2.1 HM.out.2.2.1 (by omega) (f := f + n) (n := (M : Int) - f - n) (by omega) (by omega)
      have hc3 : ((a.drop (0 * K)).take (F0 * K) ++ (a.drop (F0 * K)).take (N0 * K)) ++ (a.drop ((F0 + N0) * K)).take (R0 * K) = a := cut3 a (by rw [← hR0]; exact HM.out.2.2.2)
      rw [HE.out, HS1.out, HA1.out] at u1
      have U1 := Lib.hid u1
      have HC3 := Lib.hid hc3
      obtain rfl := u1.1
      have z1 : f ≤ 4096 := by omega
      have z2 : n ≤ 4096 := by omega
      have z3 : 0 ≤ f := by omega
      have z4 : 0 ≤ n := by omega
      have z5 : 0 ≤ (M : Int) - f - n := by omega
      have z6 : (M : Int) - f - n ≤ 4096 := by omega
      clear hin hF0 hN0 hR0 u1 hc3
      have cp := part_any (HA.out.below H7.out.belowN (Nat.le_refl _)) 0 f (by omega) (by omega)
      simp only [Ar.v] at cp
      rw [u2.1, u2.2.1, u2.2.2] at cp
      have CP := Lib.hid cp
      have y0 := H7.out.cell (i := 0) rfl 0 _ rfl
      have y1 := H7.out.cell (i := 0) rfl 1 _ rfl
      clear cp
      go_wp2_with fail
      refine CP.out.mono ?_; rintro e w8 ⟨⟨ka, kn, kc, kb, km, kd, ks, kt⟩, rfl, hI, hs, ha, hO, hb⟩
      simp only at hs ha
      simp only [Ar.v]
      have H8_ := (H7.out.arrNew hI hO hb).alloc 25 2 1 #[.slice ka kn kc, .slice kb km kd] rfl (by decide)
      try simp only [List.cons_append, List.nil_append, List.set_cons_zero, List.set_cons_succ, List.map_cons, List.map_nil, List.getD_cons_zero, List.getD_cons_succ, World.size_alloc] at H8_
      have H8 := Lib.hid H8_
      clear H8_
      have HA2 := Lib.hid (And.intro hs ha)
      clear y0 y1 hI hs ha hO hb CP
      have cp := part_any (HA.out.below H8.out.belowN (Nat.le_refl _)) (f + n) ((M : Int) - f - n) (by omega) (by omega)
      simp only [Ar.v] at cp
      rw [u3.1, u3.2.1, u3.2.2] at cp
      have CP := Lib.hid cp
      have y0 := H8.out.cell (i := 0) rfl 0 _ rfl
      have y1 := H8.out.cell (i := 0) rfl 1 _ rfl
      clear cp
      go_wp2_with fail
      refine CP.out.mono ?_; rintro e w9 ⟨⟨va, vn, vc, vb, vm, vd, vs, vt⟩, rfl, hI, hs, ha, hO, hb⟩
      simp only at hs ha
      simp only [Ar.v]
      have H9__ := (H8.out.arrNew hI hO hb).alloc 25 2 1 #[.slice va vn vc, .slice vb vm vd] rfl (by decide)
      try simp only [List.cons_append, List.nil_append, List.set_cons_zero, List.set_cons_succ, List.map_cons, List.map_nil, List.getD_cons_zero, List.getD_cons_succ, World.size_alloc] at H9__
      have H9_ := Lib.hid H9__
      clear H9__
      have HA3 := Lib.hid (And.intro hs ha)
      clear y0 y1 hI hs ha hO hb CP
      have h9 := H9_.out.intsNew (E := 2) (zs := []) (World.ownsRow_nil _ _ _ _) (Below.refl _ _) (by omega) (fun i => by simp [List.getD])
      obtain ⟨V, HV⟩ : ∃ z, Hid (w9.alloc (.cells #[.slice va vn vc, .slice vb vm vd] 25) = z) := ⟨_, rfl⟩
      rw [HV.out] at h9
      have H9_ := h9
      try simp only [List.cons_append, List.nil_append, List.set_cons_zero, List.set_cons_succ, List.map_cons, List.map_nil, List.getD_cons_zero, List.getD_cons_succ, World.size_alloc] at H9_
      have H9 := Lib.hid H9_
      clear H9_
      have H10_ := h9.via (adrew1 _)
      try simp only [List.cons_append, List.nil_append, List.set_cons_zero, List.set_cons_succ, List.map_cons, List.map_nil, List.getD_cons_zero, List.getD_cons_succ, World.size_alloc] at H10_
      have H10 := Lib.hid H10_
      clear H10_
      have hpl : rs.length = rn := (H10.out.isA (i := 2) rfl).shp.len
      have hrn : rn = n' := by rw [← hpl, HP.out.1, U1.out.2.1, List.length_set, HL.out, hll]
      have hkl : kt.length = km := (H10.out.isA (i := 4) rfl).ats.len
      have hrl : rt.length = rm := (H10.out.isA (i := 2) rfl).ats.len
      have hvl : vt.length = vm := (H10.out.isA (i := 6) rfl).ats.len
      have hcc : kt ++ rt ++ vt = a := by rw [HA2.out.2, HP.out.2, U1.out.2.2, HA3.out.2]; exact HC3.out
      have hcl : km + rm + vm = an := by rw [← hkl, ← hrl, ← hvl, ← hal, ← hcc]; simp only [List.length_append]
      have b1 : (0 + km) * 8 ≤ 140737488351232 := by omega
      have b2 : (0 + km + rm) * 8 ≤ 140737488351232 := by omega
      have b3 : (0 + km + rm + vm) * 8 ≤ 140737488351232 := by omega
      have HCC := Lib.hid hcc
      subst hrn
      obtain ⟨pg, po', hpo, -⟩ := (H9.out.isA (i := 2) rfl).shp.at hlp
      simp only at hpo
      subst hpo
      have HRS : Hid (rs.getD 0 0 = n) := by
        show _ = _
        rw [HP.out.1, U1.out.2.1, lsdL_cons s, List.set_cons_zero]; rfl
      clear hpl hkl hrl hvl hcc hcl hll
      have x1 := H9.out.cell (i := 5) rfl 1 _ rfl
      have x2 := H9.out.cell (i := 3) rfl 0 _ rfl
      have x3 := H9.out.cell (i := 3) rfl 1 _ rfl
      have x4 := H9.out.cell (i := 7) rfl 1 _ rfl
      have x5 := H9.out.cell (i := 0) rfl 1 _ rfl
      have x9 := (H9.out.isA (i := 2) rfl).shp.cell0 hlp HRS.out
      go_wp2_with fail
      rw [HV.out]
      go_region_held3 (fun w'' => w''.cell? ⟨w8.heap.size, 1, none⟩ = some (.slice kb km kd) ∧ w''.cell? ⟨w7.heap.size, 0, none⟩ = some (.slice (some ⟨pg, po', none⟩) rn rc) ∧ w''.cell? ⟨w7.heap.size, 1, none⟩ = some (.slice rb rm rd) ∧ w''.cell? ⟨w9.heap.size, 1, none⟩ = some (.slice vb vm vd) ∧ w''.cell? ⟨w.heap.size, 1, none⟩ = some (.slice aa an ac) ∧ w''.cell? ⟨pg, po', none⟩ = some (.int .i64 n)) (go_keep)
        (first
        | (refine Sp.step_locG H10.out (by rfl) _ _ 23 (by rfl) 2 i6 Try.underlying23 HI6.out.1 HI6.out.2.1 HI6.out.2.2.1 HI6.out.2.2.2 (i := 8) rfl (by rfl) (by rfl) (H10.out.isA (i := 4) rfl).ats b1 ?_; intro b1 d1 w10 h1; have H11 := Lib.hid h1; clear h1; clear x1 x2 x3 x4 x5 x9; have x1 := H11.out.cell (i := 5) rfl 1 _ rfl; have x2 := H11.out.cell (i := 3) rfl 0 _ rfl; have x3 := H11.out.cell (i := 3) rfl 1 _ rfl; have x4 := H11.out.cell (i := 7) rfl 1 _ rfl; have x5 := H11.out.cell (i := 0) rfl 1 _ rfl; have x9 := (H11.out.isA (i := 2) rfl).shp.cell0 hlp HRS.out)
        | (refine Sp.step_locG H11.out (by rfl) _ _ 23 (by rfl) 2 i6 Try.underlying23 HI6.out.1 HI6.out.2.1 HI6.out.2.2.1 HI6.out.2.2.2 (i := 8) rfl (by rfl) (by rfl) (H11.out.isA (i := 2) rfl).ats b2 ?_; intro b2 d2 w11 h2; have H12 := Lib.hid h2; clear h2; clear x1 x2 x3 x4 x5 x9; have x1 := H12.out.cell (i := 5) rfl 1 _ rfl; have x2 := H12.out.cell (i := 3) rfl 0 _ rfl; have x3 := H12.out.cell (i := 3) rfl 1 _ rfl; have x4 := H12.out.cell (i := 7) rfl 1 _ rfl; have x5 := H12.out.cell (i := 0) rfl 1 _ rfl; have x9 := (H12.out.isA (i := 2) rfl).shp.cell0 hlp HRS.out)
        | (refine Sp.step_locG H12.out (by rfl) _ _ 23 (by rfl) 2 i6 Try.underlying23 HI6.out.1 HI6.out.2.1 HI6.out.2.2.1 HI6.out.2.2.2 (i := 8) rfl (by rfl) (by rfl) (H12.out.isA (i := 6) rfl).ats b3 ?_; intro b3 d3 w12 h3; have H13 := Lib.hid h3; clear h3; clear x1 x2 x3 x4 x5 x9; have x1 := H13.out.cell (i := 5) rfl 1 _ rfl; have x2 := H13.out.cell (i := 3) rfl 0 _ rfl; have x3 := H13.out.cell (i := 3) rfl 1 _ rfl; have x4 := H13.out.cell (i := 7) rfl 1 _ rfl; have x5 := H13.out.cell (i := 0) rfl 1 _ rfl; have x9 := (H13.out.isA (i := 2) rfl).shp.cell0 hlp HRS.out; have E1_ := (eqatoms4_any (H13.out.ls (i := 8) rfl) (HA.out.ats.below H13.out.belowN (Nat.le_refl _))); simp only [Nat.zero_add, List.nil_append, HCC.out, decide_true] at E1_; have E1 := Lib.hid E1_; clear E1_)
        | (go_at_call 17; (with_reducible refine Calls.mono E1.out ?_); rintro e w13 ⟨rfl, n13, hq⟩; have H14 := Lib.hid (H13.out.via (show Below w12.heap.size w12 w13 from by rw [hq]; exact adrew _ _)); clear hq; clear x1 x2 x3 x4 x5 x9; have x1 := H14.out.cell (i := 5) rfl 1 _ rfl; have x2 := H14.out.cell (i := 3) rfl 0 _ rfl; have x3 := H14.out.cell (i := 3) rfl 1 _ rfl; have x4 := H14.out.cell (i := 7) rfl 1 _ rfl; have x5 := H14.out.cell (i := 0) rfl 1 _ rfl; have x9 := (H14.out.isA (i := 2) rfl).shp.cell0 hlp HRS.out))
      have HF : Hid (Sp Non w w13 [Pt.row ⟨25, 2, some ⟨w.heap.size, 0, none⟩, 1, 1, [.slice sa sn sc, .slice aa an ac]⟩, Pt.ints 3 (some ⟨sg, so', none⟩) rn d L]) := H14.out.pick [0, 1] (by decide)
      clear H9 H10 H11 H12 H13 H14 E1
      go_wp2_with fail
      go_meet
      exact HF
    · have e13 := pt_out HM.out.1 HM.out.2.1 hin
      rw [HE.out] at e13
      subst e13
      have HF : Hid (Sp Non w (w7.alloc (.cells #[.slice ra rn rc, .slice rb rm rd] 25)) [Pt.row ⟨25, 2, some ⟨w.heap.size, 0, none⟩, 1, 1, [.slice sa sn sc, .slice aa an ac]⟩, Pt.ints 3 (some ⟨sg, so', none⟩) n' d L]) := H7.out.pick [0, 1] (by decide)
      have hcase : f < 0 ∨ (0 ≤ f ∧ n < 0) ∨ (0 ≤ f ∧ 0 ≤ n ∧ (M : Int) < f) ∨ (0 ≤ f ∧ 0 ≤ n ∧ f ≤ M ∧ M - f < n) := by omega
      clear hin
      rcases hcase with h | ⟨h1, h⟩ | ⟨h1, h2, h⟩ | ⟨h1, h2, h3, h⟩
      · have q1 : ¬ (0 : Int) ≤ f := by omega
        go_wp2_with fail
        go_meet
        exact HF
      · have q1 : ¬ (0 : Int) ≤ n := by omega
        go_wp2_with fail
        go_meet
        exact HF
      · have q1 : ¬ f ≤ (M : Int) := by omega
        go_wp2_with fail
        go_meet
        exact HF
      · have q1 : ¬ n ≤ (M : Int) - f := by omega
        go_wp2_with fail
        go_meet
        exact HF
  case rest =>
  obtain ⟨V, hV⟩ : ∃ z : World, z = wc := ⟨_, rfl⟩
  subst hV
  have H20 := Lib.hid hcut.out
  clear hcut H6 H7 H3 HP
  obtain ⟨k1, k2, k3⟩ := pc_plain HM.out.1 HM.out.2.1 g
  have ci := pieces_any (HA.out.below H20.out.belowN (Nat.le_refl _)) g hg
  simp only [Ar.v] at ci
  obtain ⟨PE, HPE⟩ : ∃ z, Hid (pcE s a g = z) := ⟨_, rfl⟩
  obtain ⟨PP, HPP⟩ : ∃ z, Hid (pcP s a g = z) := ⟨_, rfl⟩
  obtain ⟨PS, HPS⟩ : ∃ z, Hid (pcS s a g = z) := ⟨_, rfl⟩
  obtain ⟨PA, HPA⟩ : ∃ z, Hid (pcA s a g = z) := ⟨_, rfl⟩
  rw [HPE.out, HPP.out, HPS.out, HPA.out] at ci
  rw [HPE.out] at k1
  rw [HPE.out, HPP.out, HPS.out] at k2
  rw [HPE.out, HPP.out, HPS.out, HPA.out] at k3
  have CI := Lib.hid ci
  have K1 := Lib.hid k1
  have K2 := Lib.hid k2
  have K3 := Lib.hid k3
  have y0 := H20.out.cell (i := 0) rfl 0 _ rfl
  have y1 := H20.out.cell (i := 0) rfl 1 _ rfl
  clear ci k1 k2 k3
  go_wp2_with fail
  refine CI.out.mono ?_; rintro e w20 ⟨qo, qn, qc, ⟨da, dn, dc, db, dm, dd, ds, dt⟩, rfl, h20, hql, hs, ha⟩
  simp only at hs ha
  simp only [Ar.v]
  have H21_ := (H20.out.add h20).alloc 25 2 1 #[.slice da dn dc, .slice db dm dd] rfl (by decide)
  try simp only [List.cons_append, List.nil_append, List.set_cons_zero, List.set_cons_succ, List.map_cons, List.map_nil, List.getD_cons_zero, List.getD_cons_succ, World.size_alloc] at H21_
  have H21 := Lib.hid H21_
  clear H21_
  have HD := Lib.hid (And.intro hs ha)
  have HQL := Lib.hid hql
  have HF : Hid (RetB w (.bool true) (.returned (.bool true)) (w20.alloc (.cells #[.slice da dn dc, .slice db dm dd] 25))) := RetB.mk rfl H21.out.belowN
  clear y0 y1 h20 hs ha CI hql
  by_cases g0 : g = 0
  · have e0 := K1.out g0
    subst e0 g0
    go_wp2
    go_ret
    exact HF.out
  · have q0 : (g == 0) = false := by simpa using g0
    by_cases hN : pcN M g = 0
    · obtain ⟨hp, hor⟩ := K2.out g0 hN
      have hqn : qn = 0 := by have h := HQL.out; rw [hp] at h; exact h.symm
      subst hqn
      have hno := pc_none (M := (M : Int)) (by omega) g0 hN
      rcases hor with h17 | ⟨h0, g1, g2, hS⟩
      · subst h17
        have q1 : (g != 0) = true := by simpa using g0
        rcases hno with ⟨u1, u2⟩ | ⟨u1, u2⟩
        · clear K1 K2 K3 hp hN
          go_wp2
          go_ret
          exact HF.out
        · have hM0 : M = 0 := by omega
          have q2 : ¬ ((M : Int) < g) := by omega
          have q3 : ((M : Int) == 0) = true := by simpa using hM0
          clear K1 K2 K3 hp hN hM0 u2
          go_wp2
          go_ret
          exact HF.out
      · subst h0
        have hdl : ds.length = dn := (H21.out.isA (i := 3) rfl).shp.len
        have hdn : dn = n' := by rw [← hdl, HD.out.1, hS, List.length_set, HL.out, hll]
        subst hdn
        obtain ⟨dg, do', hdo, -⟩ := (H21.out.isA (i := 3) rfl).shp.at hlp
        simp only at hdo
        subst hdo
        have x0 := H21.out.cell (i := 4) rfl 0 _ rfl
        rcases hno with ⟨u1, u2⟩ | ⟨u1, u2⟩
        · have x9 := (H21.out.isA (i := 3) rfl).shp.cell0 hlp (x := g) (by rw [HD.out.1, hS, lsdL_cons s, List.set_cons_zero]; show max g (-g) = g; omega)
          clear K1 K2 K3 hp hN hdl hS
          go_wp2
          go_ret
          exact HF.out
        · have x9 := (H21.out.isA (i := 3) rfl).shp.cell0 hlp (x := -g) (by rw [HD.out.1, hS, lsdL_cons s, List.set_cons_zero]; show max g (-g) = -g; omega)
          have hM0 : M = 0 := by omega
          have q2 : ¬ (0 < g) := by omega
          have q3 : ((M : Int) == 0) = true := by simpa using hM0
          clear K1 K2 K3 hp hN hdl hS hM0 u2
          go_wp2
          go_ret
          exact HF.out
    · obtain ⟨h0, hp, hS, hA0⟩ := K3.out g0 hN
      subst h0
      have hqn : qn = pcN M g := by have h := HQL.out; rw [hp, pcL_len] at h; exact h.symm
      have hqp : 0 < qn := by omega
      have hqb : qn ≤ 4096 := by rw [hqn]; exact pcN_le (by omega) g0
      have h22 := H21.out.pick [2, 3, 4] (by decide)
      simp only [List.map_cons, List.map_nil, List.getD_cons_zero, List.getD_cons_succ] at h22
      obtain ⟨c1, c2, c3, c4, c5⟩ := h22.rcap (i := 0) rfl
      obtain ⟨qg, rfl⟩ := c5 (by omega)
      have hdn : dn = 0 := by have h := (h22.isA (i := 1) rfl).shp.len; simp only at h; rw [HD.out.1, hS] at h; exact h.symm
      have hdm : dm = 0 := by have h := (h22.isA (i := 1) rfl).ats.len; simp only at h; rw [HD.out.2, hA0] at h; exact h.symm
      subst hdn hdm
      have H22 := Lib.hid h22
      have HQN := Lib.hid (And.intro hqn hp)
      have qn0 : ¬ qn = 0 := by omega
      have qn1 : ((qn : Int) == 0) = false := by simpa using qn0
      have hqc : qn ≤ qc := c1
      clear h22 c1 c2 c3 c4 c5 hqn hp hS hA0 K1 K2 K3 hN H21 H20 HF
      obtain ⟨MS, HMS⟩ : ∃ z, Hid (mst g = z) := ⟨_, rfl⟩
      go_upto_if 248 with fail
      go_cut [25] from 248 to 250 (fun (v : Value) (wx : World) => v = .int .i64 MS ∧ Hid (Sp Non w wx [Pt.row ⟨47, 2, some ⟨qg, 0, none⟩, qn, qc, cellsP PP⟩, Pt.arr ⟨da, 0, dc, db, 0, dd, ds, dt⟩, Pt.row ⟨25, 2, some ⟨w20.heap.size, 0, none⟩, 1, 1, [.slice da 0 dc, .slice db 0 dd]⟩]))
      case first =>
        by_cases g5 : -5000 < g
        · have hms : MS = -g := by rw [← HMS.out]; unfold mst; rw [if_pos g5]
          subst hms
          go_wp2_with fail
          go_meet
          exact ⟨rfl, H22⟩
        · have hms : MS = 5000 := by rw [← HMS.out]; unfold mst; rw [if_neg g5]
          subst hms
          go_wp2_with fail
          go_meet
          exact ⟨rfl, H22⟩
      case rest =>
      obtain ⟨rfl, hcut⟩ := hcut
      obtain ⟨Y, hY⟩ : ∃ z : World, z = wc := ⟨_, rfl⟩
      subst hY
      have H23 := Lib.hid hcut.out
      clear hcut H22
      go_wp2_with fail
      go_loopw [24, 26] (fun v24 v26 wr => ∃ (k : Nat) (X : Int), k ≤ qn ∧ v26 = .int .i64 k ∧ v24 = .int .i64 X ∧ Hid (X = nxP M g k ∧ Sp Non w wr [Pt.row ⟨47, 2, some ⟨qg, 0, none⟩, qn, qc, cellsP PP⟩, Pt.arr ⟨da, 0, dc, db, 0, dd, ds, dt⟩, Pt.row ⟨25, 2, some ⟨w20.heap.size, 0, none⟩, 1, 1, [.slice da 0 dc, .slice db 0 dd]⟩])) (fun _ v26 _ => qn - (RowKit.intOf v26).toNat)
      case atStart => exact ⟨0, 0, by omega, rfl, rfl, ⟨(nxP_zero (by omega)).symm, H23.out⟩⟩
      case round =>
        obtain ⟨k, X, hk, rfl, rfl, HO⟩ := hrel
        by_cases hlt : k < qn
        · have hlt' : (k : Int) < qn := by omega
          have hkN : k < pcN M g := by rw [← HQN.out.1]; exact hlt
          have HP := Lib.hid (HO.out.2.pcs (i := 0) (l := PP) rfl HQL.out)
          by_cases gp : 0 < g
          · obtain ⟨v1, v2, v3⟩ := pcs_up (by omega) gp k hkN
            obtain ⟨a0, a1⟩ := HP.out.cellAt (i := k) (x := k) (y := g) (by rw [HQN.out.2]; exact v1) hlt
            have q1 : ¬ g < 0 := by omega
            have HX : Hid ((k : Int) + g = nxP M g (k + 1)) := v2
            clear v1 v2 hkN
            go_upto_region 33 with fail
            dsimp only [List.append]
            go_wp2_with fail
            go_quiet (fail)
            go_wp2
            go_roundw
            case rel => exact ⟨k + 1, _, by omega, by go_num, rfl, ⟨HX.out, HO.out.2.via (adrew _ _)⟩⟩
            case measure => simp [RowKit.intOf]; omega
          · obtain ⟨x, y, v1, v2, v3, v4, v5, v6, v7, v8⟩ := pcs_dn (by omega) (show g < 0 by omega) k hkN
            obtain ⟨a0, a1⟩ := HP.out.cellAt (i := k) (x := x) (y := y) (by rw [HQN.out.2]; exact v1) hlt
            have hxX : x = X := by rw [HO.out.1]; exact v3
            subst hxX
            rw [HMS.out] at v5 v6
            rw [← HQN.out.1] at v6
            have HX : Hid (x + y = nxP M g (k + 1)) := v2
            have q1 : g < 0 := by omega
            have q2 : ¬ y < 1 := by omega
            have q3 : ¬ MS < y := by omega
            have q4 : IntKind.i64.wrap ((qn : Int) - 1) = qn - 1 := IntWalk.i64_in _ (by omega)
            clear v1 v2 v3 hkN
            by_cases hl : k + 1 < qn
            · have hy : y = MS := v6 hl
              have q5 : (k : Int) < qn - 1 := by omega
              subst hy
              clear v5 v6
              go_upto_region 33 with fail
              dsimp only [List.append]
              go_wp2_with fail
              go_quiet (fail)
              go_wp2
              go_roundw
              case rel => exact ⟨k + 1, _, by omega, by go_num, rfl, ⟨HX.out, HO.out.2.via (adrew _ _)⟩⟩
              case measure => simp [RowKit.intOf]; omega
            · have q5 : ¬ ((k : Int) < qn - 1) := by omega
              clear v5 v6
              go_upto_region 33 with fail
              dsimp only [List.append]
              go_wp2_with fail
              go_quiet (fail)
              go_wp2
              go_roundw
              case rel => exact ⟨k + 1, _, by omega, by go_num, rfl, ⟨HX.out, HO.out.2.via (adrew _ _)⟩⟩
              case measure => simp [RowKit.intOf]; omega
        · have hge : ¬ ((k : Int) < qn) := by omega
          obtain rfl : k = qn := by omega
          have hX : X = M := by rw [HO.out.1, HQN.out.1]; exact nxP_end (by omega) g0 (by rw [← HQN.out.1]; exact hqp)
          subst hX
          have y0 := HO.out.2.cell (i := 2) rfl 0 _ rfl
          have y1 := HO.out.2.cell (i := 2) rfl 1 _ rfl
          have HF := Lib.hid (RetB.mk (w := w) (v := .bool true) (v' := .bool true) rfl HO.out.2.belowN)
          go_wp2
          go_ret
          exact HF.out

theorem walkCellParts {w : World} {A : Ar} (hA : A.Is w) {f : Int} (hf : -9223372036854775808 ≤ f ∧ f ≤ 9223372036854775807) {n : Int} (hn : -9223372036854775808 ≤ n ∧ n ≤ 9223372036854775807) {g : Int} (hg : -9223372036854775808 ≤ g ∧ g ≤ 9223372036854775807) :
    Calls Try.prog 4 #[A.v, .int .i64 f, .int .i64 n, .int .i64 g] w (RetB w (.bool true)) := by
  by_cases hm : amE A.s A.a = 0
  · exact parts_ok hA hf hn hg hm
  · exact parts_bad hA hm
end Go.Proofs.Ytfmabpdkjhlihaa

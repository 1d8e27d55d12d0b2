/- The arrays that layer 4's laws (and later ones) leave untouched: Untouched. -/
import Derived.Test.YtoippfoeghjdoaaQuiet4
namespace Go.Proofs.Ytoippfoeghjdoaa
open Go.RowKit Go.Lib
set_option linter.unusedVariables false
set_option linter.unusedSimpArgs false
attribute [local go_sem] alloc_drewN setCell_drewN
section
variable {base : Nat} {w : World} {R : Nat × Nat × Nat → Rw} {qb n p o J : Nat} {mu mu' : Int} {va wa : Nat → Ar} {nm : Nat → Nat}
/-- A slice of arrays whose rows are held. -/
theorem Hold.ars4 (h : Hold base w R) {t : Nat × Nat × Nat} {ao : Option Addr} {c : Nat} (e : R t = ⟨38, 2, ao, n, c, (List.range n).flatMap fun k => [vS4 (va k), vA4 (va k)]⟩) (hI : ∀ k, k < n → (va k).Is w) : Ars w ao n c ((List.range n).map va) := by
  have hc := h.cap e
  refine ⟨by simp, hc.1, hc.2.1, fun h0 => ?_, fun i A hA => ?_⟩
  · obtain ⟨g, rfl⟩ := hc.2.2.2.2 (by have := hc.1; omega)
    refine ⟨g, 0, rfl, (h.lt e).2, fun i A hA => ?_⟩
    rw [List.getElem?_map] at hA
    have hi : i < n := by
      rcases Nat.lt_or_ge i n with hi | hi
      · exact hi
      · rw [List.getElem?_eq_none (by simpa using hi)] at hA; simp at hA
    rw [List.getElem?_range hi] at hA
    simp only [Option.map_some, Option.some.injEq] at hA
    subst hA
    obtain ⟨q0, q1⟩ := pairs4_at (fun k => vS4 (va k)) (fun k => vA4 (va k)) n i hi
    rw [Nat.zero_add, Nat.zero_add]
    exact ⟨h.cell e _ _ q0, h.cell e _ _ q1⟩
  · rw [List.getElem?_map] at hA
    have hi : i < n := by
      rcases Nat.lt_or_ge i n with hi | hi
      · exact hi
      · rw [List.getElem?_eq_none (by simpa using hi)] at hA; simp at hA
    rw [List.getElem?_range hi] at hA
    simp only [Option.map_some, Option.some.injEq] at hA
    subst hA
    exact hI i hi
/-- A new book. -/
def newB4 (R : Nat × Nat × Nat → Rw) (o bb : Nat) : Nat × Nat × Nat → Rw :=
  updR (updR (updR R (o, 1, 0) ⟨25, 1, none, 0, 0, []⟩) (o, 2, 0) ⟨28, 1, none, 0, 0, []⟩) (o, 0, 0) ⟨50, 3, some ⟨bb, 0, none⟩, 1, 1, [.slice none 0 0, .int .i64 0, .slice none 0 0]⟩
theorem newB4_hold (H : Hold base w R) (o : Nat) : Hold base (w.alloc (.cells #[.slice none 0 0, .int .i64 0, .slice none 0 0] 50)) (newB4 R o w.heap.size) := by
  have h1 := H.add (o, 1, 0) (r := ⟨25, 1, none, 0, 0, []⟩) (World.ownsRow_nil _ _ _ _) fun s _ g hg => by cases hg
  have h2 := h1.add (o, 2, 0) (r := ⟨28, 1, none, 0, 0, []⟩) (World.ownsRow_nil _ _ _ _) fun s _ g hg => by cases hg
  exact h2.alloc (o, 0, 0) (cs := #[.slice none 0 0, .int .i64 0, .slice none 0 0]) (E := 50) (sz := 3) (n := 1) rfl (by decide)
theorem newB4_bk (R : Nat × Nat × Nat → Rw) (o bb : Nat) : Bk4 (newB4 R o bb) o bb 0 0 0 := by
  have e0 : newB4 R o bb (o, 0, 0) = ⟨50, 3, some ⟨bb, 0, none⟩, 1, 1, [.slice none 0 0, .int .i64 0, .slice none 0 0]⟩ := updR_eq
  have e1 : newB4 R o bb (o, 1, 0) = ⟨25, 1, none, 0, 0, []⟩ := (updR_ne (by simp)).trans ((updR_ne (by simp)).trans updR_eq)
  have e2 : newB4 R o bb (o, 2, 0) = ⟨28, 1, none, 0, 0, []⟩ := (updR_ne (by simp)).trans updR_eq
  exact ⟨⟨by rw [e0, e1, e2]; rfl, ⟨none, 0, by rw [e1]; rfl⟩, fun k hk => absurd hk (by omega), by omega, by omega, by omega⟩, ⟨none, 0, by rw [e2]; rfl⟩, fun k hk => absurd hk (by omega), by omega, by omega⟩
theorem newB4_ne (R : Nat × Nat × Nat → Rw) (o bb : Nat) {t : Nat × Nat × Nat} (h : t.1 ≠ o) : newB4 R o bb t = R t := by
  unfold newB4
  rw [updR_ne (fun e => h (by rw [e])), updR_ne (fun e => h (by rw [e])), updR_ne (fun e => h (by rw [e]))]
set_option maxRecDepth 100000 in
set_option maxHeartbeats 3200000 in
theorem untouched4_any (H : Hold base w R) (B : Qt R qb n mu va wa nm J) :
    Calls Try.prog 19 #[.pointer (some ⟨qb, 0, none⟩)] w (fun e w' => e = .returned (.bool true) ∧ Below base w w') := by
  obtain ⟨p1, x1, l1⟩ := B.l1
  obtain ⟨p2, x2, l2⟩ := B.l2
  have hob := B.obj
  rw [l1, l2] at hob
  simp only [Rw.v] at hob
  have nb := B.nb
  have HD := Lib.hid (H.via (adrew1 w))
  have A1 := HD.out.ars4 l1 (fun k hk => HD.out.isA4 (B.e1 k hk).1 (B.e1 k hk).2 (B.ok k hk).1)
  have A2 := HD.out.ars4 l2 (fun k hk => HD.out.isA4 (B.e2 k hk).1 (B.e2 k hk).2 (B.ok k hk).2.1)
  have heq : ((List.range n).map va).map Ar.sa2 = ((List.range n).map wa).map Ar.sa2 := by
    rw [List.map_map, List.map_map]
    exact List.map_congr_left fun k hk => by
      have := (B.ok k (List.mem_range.1 hk)).2.2
      simp [Ar.sa2, this.1, this.2]
  have CE := Lib.hid (eqall4_any A1 A2)
  rw [decide_eq_true heq] at CE
  have d0 := H.cell hob 0 _ rfl
  have d1 := H.cell hob 1 _ rfl
  have HB := Lib.hid B
  have L1 := Lib.hid l1
  have OB := Lib.hid hob
  have BD := Lib.hid ((adrew1 w).mono H.base)
  clear H B l1 l2 hob A1 A2 heq
  go_enter Try.func19, Try.ntmps19
  go_upto_region 1 with fail
  go_region_held3 (fun v => v.cell? ⟨qb, 0, none⟩ = some (.slice p1 n x1) ∧ v.cell? ⟨qb, 1, none⟩ = some (.slice p2 n x2)) (go_keep)
    (first
    | (go_at_call 40; (with_reducible refine Calls.mono CE.out ?_); rintro e w2 ⟨rfl, hb2⟩; have H2 := Lib.hid (HD.out.via hb2); have B2 := Lib.hid (BD.out.trans (hb2.mono HD.out.base)); clear hb2 d0 d1; have d0 := H2.out.cell OB.out 0 _ rfl; have d1 := H2.out.cell OB.out 1 _ rfl))
  obtain ⟨W3, HW3⟩ : ∃ z, Hid (w2.alloc (.cells #[.slice none 0 0, .int .i64 0, .slice none 0 0] 50) = z) := ⟨_, rfl⟩
  have h3 := newB4_hold H2.out 30
  rw [HW3.out] at h3
  have e20 : ∀ a k, newB4 R 30 w2.heap.size (20, a, k) = R (20, a, k) := fun a k => newB4_ne _ _ _ (by simp)
  have e21 : ∀ a k, newB4 R 30 w2.heap.size (21, a, k) = R (21, a, k) := fun a k => newB4_ne _ _ _ (by simp)
  have CT := Lib.hid (takeArrays4_any (p := 21) (q := (20, 1, 0)) (N := n) (la := p1) (lc := x1) h3 (newB4_bk R 30 w2.heap.size) (by simp) (by simp) (by
      rw [e20, L1.out]
      congr 1
      rw [List.flatMap_def, List.flatMap_def]
      congr 1
      exact List.map_congr_left fun k hk => by
        have := HB.out.e1 k (List.mem_range.1 hk)
        rw [e21, e21, this.1, this.2]; rfl)
    (fun i hi => by
      have h1 := HB.out.e1 i hi
      have h2 := (HB.out.ok i hi).1
      rw [e21, e21, h1.1, h1.2]
      exact ⟨⟨_, _, _, _, h2.b1, rfl⟩, ⟨_, _, _, _, h2.b2, rfl⟩⟩) (by omega) (by omega))
  have g0 : (w2.alloc (.cells #[.slice none 0 0, .int .i64 0, .slice none 0 0] 50)).cell? ⟨qb, 0, none⟩ = some (.slice p1 n x1) := by rw [HW3.out]; exact h3.cell ((e20 0 0).trans OB.out) 0 _ rfl
  have B3 : Hid (Below base w W3) := by show Below _ _ _; rw [← HW3.out]; exact B2.out.trans ((abal _ _).mono H2.out.base)
  clear h3 e20 e21 d0 d1
  go_wp2_with fail
  rw [HW3.out]
  refine CT.out.mono ?_; rintro e w4 ⟨rfl, K4, L4, mu4, R4, h4, b4, -, hB4, -, -⟩
  have CW := Lib.hid (allWhole4_any h4 b4)
  have HF := Lib.hid (B3.out.trans hB4)
  clear h4 b4 hB4 g0 CT
  go_wp2_with fail
  refine CW.out.mono ?_; rintro e w5 ⟨rfl, hw5⟩
  have hw5' := hw5.symm
  subst hw5'
  go_wp2
  go_ret
  exact ⟨rfl, HF.out⟩
end
end Go.Proofs.Ytoippfoeghjdoaa

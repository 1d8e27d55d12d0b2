/- The book of layer 2 (abacuslaw2): how much room, how full, whole. -/
import Derived.Test.YtoippfoeghjdoaaHandsXY
import Derived.Deep.RegionLaw
namespace Go.Proofs.Ytoippfoeghjdoaa
open Go.RowKit Go.Lib
set_option linter.unusedVariables false
set_option linter.unusedSimpArgs false
attribute [local go_sem] alloc_drewN setCell_drewN
/-- The mark of the k-th list. -/
def mkB (k : Nat) : Int := -1 - k
/-- The rows (o, ..) are the lists of a book that is kept in the object of tag tp: each full of its mark. -/
structure Bk2 (R : Nat × Nat × Nat → Rw) (tp : Nat × Nat × Nat) (o : Nat) (E0 : TypeId) (sz0 bb : Nat) (tl : List Value) (K : Nat) (mu : Int) : Prop where
  obj : R tp = ⟨E0, sz0, some ⟨bb, 0, none⟩, 1, 1, (R (o, 1, 0)).v :: .int .i64 mu :: tl⟩
  l1 : ∃ ao c, R (o, 1, 0) = ⟨25, 1, ao, K, c, (List.range K).map fun k => (R (o, 3, k)).v⟩
  e1 : ∀ k, k < K → ∃ ao n c, n ≤ 4264304 ∧ R (o, 3, k) = ⟨3, 1, ao, n, c, List.replicate n (.int .i64 (mkB k))⟩
  s0 : (K : Int) * 400 ≤ mu
  s1 : mu ≤ 4611686018427387904
  kb : K ≤ 83886
section
variable {base : Nat} {w : World} {R : Nat × Nat × Nat → Rw} {tp : Nat × Nat × Nat} {o bb sz0 : Nat} {E0 : TypeId} {tl : List Value}
theorem Bk2.congr {R' : Nat × Nat × Nat → Rw} {K : Nat} {mu : Int} (h : Bk2 R tp o E0 sz0 bb tl K mu) (h0 : R' tp = R tp) (hR : ∀ t, t.1 = o → R' t = R t) : Bk2 R' tp o E0 sz0 bb tl K mu := by
  refine ⟨?_, ?_, ?_, h.s0, h.s1, h.kb⟩
  · rw [h0, hR _ rfl]; exact h.obj
  · obtain ⟨ao, c, e⟩ := h.l1
    refine ⟨ao, c, ?_⟩
    rw [hR _ rfl, e]
    congr 1
    exact List.map_congr_left fun k _ => by rw [hR _ rfl]
  · intro k hk; rw [hR _ rfl]; exact h.e1 k hk
theorem room2_any (n c : Nat) (hn : n ≤ 17592186043904) (w : World) : Calls Try.prog 36 #[.int .i64 n, .int .i64 c] w (RetS w (.int .i64 (min c (n + 70000) : Nat))) := by
  by_cases h : (n : Int) + 70000 < c
  · rw [show min c (n + 70000) = n + 70000 by omega, Int.natCast_add]
    have HN := Lib.hid hn
    go_enter Try.func36, Try.ntmps36
    go_wp2
    go_ret
    exact RetS.mk rfl
  · rw [show min c (n + 70000) = c by omega]
    go_enter Try.func36, Try.ntmps36
    go_wp2
    go_ret
    exact RetS.mk rfl
set_option maxRecDepth 100000 in
set_option maxHeartbeats 1600000 in
theorem full2_any {v1 : Value} {mu n : Int} (H : Hold base w R) (hob : R tp = ⟨E0, sz0, some ⟨bb, 0, none⟩, 1, 1, v1 :: .int .i64 mu :: tl⟩) (hm : 0 ≤ mu) (hn : 0 ≤ n) (hmn : mu + 400 + n ≤ 4611686018427387904) :
    Calls Try.prog 35 #[.pointer (some ⟨bb, 0, none⟩), .int .i64 n] w (fun e w' => e = .returned (.bool (decide (33554432 < mu + 400 + n))) ∧ Hold base w' (updR R tp ⟨E0, sz0, some ⟨bb, 0, none⟩, 1, 1, v1 :: .int .i64 (mu + 400 + n) :: tl⟩) ∧ Below base w w') := by
  have d1 := H.cell hob 1 _ rfl
  have f1 := H.frozen hob 1
  have hP := H.put hob 1 (.int .i64 (mu + 400 + n))
  have HP := Lib.hid hP
  have HB := Lib.hid (H.putB hob 1 (.int .i64 (mu + 400 + n)))
  clear H hob hP
  go_enter Try.func35, Try.ntmps35
  go_wp2
  go_ret
  exact ⟨rfl, HP.out, HB.out⟩
set_option maxRecDepth 100000 in
set_option maxHeartbeats 1600000 in
theorem whole2_any {K : Nat} {mu : Int} (H : Hold base w R) (B : Bk2 R tp o E0 sz0 bb tl K mu) :
    Calls Try.prog 38 #[.pointer (some ⟨bb, 0, none⟩)] w (RetS w (.bool true)) := by
  obtain ⟨ao1, c1, l1⟩ := B.l1
  have hob := B.obj
  rw [l1] at hob
  simp only [Rw.v] at hob
  have d0 : w.cell? ⟨bb, 0, none⟩ = some (.slice ao1 K c1) := H.cell hob 0 _ rfl
  have hk4 := B.kb
  have P1 := H.cap l1
  have HH := Lib.hid H
  have HB := Lib.hid B
  have HL1 := Lib.hid l1
  have HP1 := Lib.hid P1
  clear H B hob l1 P1
  go_enter Try.func38, Try.ntmps38
  go_wp2_with fail
  go_loopw [3, 4] (fun v3 v4 wr => ∃ k : Nat, k ≤ K ∧ v3 = .int .i64 k ∧ wr = w) (fun v3 _ _ => K - (RowKit.intOf v3).toNat)
  case atStart => exact ⟨0, Nat.zero_le _, rfl, rfl⟩
  case round =>
    obtain ⟨k, hk, rfl, rfl⟩ := hrel
    by_cases hlt : k < K
    · have hlt' : (k : Int) < K := by omega
      obtain ⟨g1, hg1⟩ := HP1.out.2.2.2.2 (by have := HP1.out.1; omega)
      subst hg1
      obtain ⟨bo1, n1, x1, hn1, e1⟩ := HB.out.e1 k hlt
      have r1 : wr.cell? ⟨g1, k, none⟩ = some (.slice bo1 n1 x1) := HH.out.cell HL1.out k _ (by rw [List.getElem?_map, List.getElem?_range hlt]; simp only [Option.map_some, e1, Rw.v])
      obtain ⟨m1, HM1⟩ : ∃ z, Hid (mkB k = z) := ⟨_, rfl⟩
      have hw1 : IntKind.i64.wrap (-1 - (k : Int)) = m1 := by rw [← HM1.out]; exact IntWalk.i64_in _ (by omega)
      have hb1 : (m1 != m1) = false := by simp
      rw [HM1.out] at e1
      have E1 := Lib.hid e1
      have HK1 := Lib.hid (HH.out.cap e1)
      clear e1
      go_wp2_with fail
      go_loopw [4] (fun v4 w4 => ∃ j : Nat, j ≤ n1 ∧ v4 = .int .i64 j ∧ w4 = wr) (fun v4 _ => n1 - (RowKit.intOf v4).toNat)
      case atStart => exact ⟨0, Nat.zero_le _, rfl, rfl⟩
      case round =>
        obtain ⟨j, hj, rfl, rfl⟩ := hrel
        by_cases hlj : j < n1
        · have hlj' : (j : Int) < n1 := by omega
          obtain ⟨q, hq⟩ := HK1.out.2.2.2.2 (by have := HK1.out.1; omega)
          subst hq
          have s1 := HH.out.cell E1.out j (.int .i64 m1) (by rw [List.getElem?_replicate, if_pos hlj])
          go_wp2
          go_roundw
          case rel => first | exact ⟨j + 1, by omega, by go_num, by first | rfl | trivial⟩ | ((repeat apply Exists.intro); exact ⟨⟨j + 1, by omega, by go_num, rfl⟩, rfl⟩)
          case measure => simp [RowKit.intOf]; omega
        · have hge : (n1 : Int) ≤ j := by omega
          go_wp2
          go_roundw
          case rel => first | exact ⟨k + 1, by omega, by go_num, by first | rfl | trivial⟩ | ((repeat apply Exists.intro); exact ⟨⟨k + 1, by omega, by go_num, rfl⟩, rfl⟩)
          case measure => simp [RowKit.intOf]; omega
    · have hge : (K : Int) ≤ k := by omega
      go_wp2
      go_ret
      exact RetS.mk rfl
end
end Go.Proofs.Ytoippfoeghjdoaa

/- ShapeFresh: the walk of the statement's function. -/
import Derived.Test.YtdedbfbkakofgaaShapeFreshM21
import Derived.Test.YtdedbfbkakofgaaShapeFreshM14
namespace Go.Proofs.Ytdedbfbkakofgaa
open Go.RowKit Go.Lib
set_option linter.unusedVariables false
set_option linter.unusedSimpArgs false
attribute [local go_sem] alloc_drewN setCell_drewN
/-- How much a call is handed. -/
def SizeQ (sn tn mn : Nat) (w : World) (e : Ending) (w' : World) : Prop := ∃ N : Int, e = .returned (.int .i64 N) ∧ 0 ≤ N ∧ N ≤ 35184372087808 ∧ (N < 4194304 → 10 * (mn : Int) ≤ N) ∧ (sn : Int) + tn ≤ N ∧ Below w.heap.size w w'
set_option maxRecDepth 100000 in
set_option maxHeartbeats 1600000 in
theorem size2q_any {w : World} {o : Op2} (hI : o.Is w) : Calls Try.prog 13 #[.agg o.cells] w (SizeQ o.sn o.tn o.mn w) := by
  obtain ⟨kk, sa, sn, sc, s, ta, tn, tc, t, nn, ma, mn, mc, m⟩ := o
  simp only [Op2.cells]
  obtain ⟨hS, hT, hM, hnn⟩ := hI
  simp only at hS hT hM hnn
  have b1 := hS.big
  have b2 := hT.big
  have b3 := hM.big
  obtain ⟨W3, HW3⟩ : ∃ z, Hid (w.alloc (.cells #[.int .i64 kk, .slice sa sn sc, .slice ta tn tc, .int .i64 nn, .slice ma mn mc] 37) = z) := ⟨_, rfl⟩
  have hb3 : Below w.heap.size w W3 := by rw [← HW3.out]; exact abal _ _
  have p1 : (w.alloc (.cells #[.int .i64 kk, .slice sa sn sc, .slice ta tn tc, .int .i64 nn, .slice ma mn mc] 37)).cell? ⟨w.heap.size, 1, none⟩ = some (.slice sa sn sc) := by simp [go_sem]
  have p2 : (w.alloc (.cells #[.int .i64 kk, .slice sa sn sc, .slice ta tn tc, .int .i64 nn, .slice ma mn mc] 37)).cell? ⟨w.heap.size, 2, none⟩ = some (.slice ta tn tc) := by simp [go_sem]
  have p4 : W3.cell? ⟨w.heap.size, 4, none⟩ = some (.slice ma mn mc) := by rw [← HW3.out]; simp [go_sem]
  have HB3 := Lib.hid hb3
  have HM := Lib.hid (hM.below hb3 (Nat.le_refl _))
  clear hS hT hM hnn hb3
  go_enter Try.func13, Try.ntmps13
  go_upto_region 2 with fail
  rw [HW3.out]
  clear p1 p2
  have P4 := Lib.hid p4
  go_wp2_with fail
  go_loopw [3, 4] (fun v3 v4 wr => ∃ (k : Nat) (N : Int), k ≤ mn ∧ v4 = .int .i64 k ∧ v3 = .int .i64 N ∧ 0 ≤ N ∧ N ≤ 35184372087808 ∧ 10 * (k : Int) + sn + tn ≤ N ∧ wr = W3) (fun _ v4 _ => mn - (RowKit.intOf v4).toNat)
  case atStart => exact ⟨0, (sn : Int) + tn, Nat.zero_le _, rfl, by go_num, by omega, by omega, by omega, rfl⟩
  case round =>
    obtain ⟨k, N, hk, rfl, rfl, hN0, hN1, hkN, rfl⟩ := hrel
    have p4 := P4.out
    by_cases hlt : k < mn
    · have hlt' : (k : Int) < mn := by omega
      by_cases hN : N < 4194304
      · obtain ⟨lb, lo, rfl, hlb, hcs⟩ := HM.out.mem (by omega)
        obtain ⟨ai, ni, ci, dl, hls⟩ := hcs k hlt
        have b4 := hls.big
        clear hcs hls hlb
        go_wp2
        go_roundw
        case rel => exact ⟨k + 1, N + 10 + ni, by omega, by go_num, by go_num, by omega, by omega, by omega, by first | rfl | trivial⟩
        case measure => simp [RowKit.intOf]; omega
      · have hge : (4194304 : Int) ≤ N := by omega
        go_wp2
        go_ret
        exact ⟨N, rfl, hN0, hN1, fun h => by omega, by omega, HB3.out⟩
    · have hge : (mn : Int) ≤ k := by omega
      go_wp2
      go_ret
      exact ⟨N, rfl, hN0, hN1, fun h => by omega, by omega, HB3.out⟩
section
variable {base : Nat} {w wx : World} {R : Nat × Nat × Nat → Rw}
set_option maxRecDepth 100000 in
set_option maxHeartbeats 1600000 in
theorem over2h_any {wb : Nat} {n N : Int} (H : Hold base wx R) (e : R (5, 0, 0) = ⟨34, 1, some ⟨wb, 0, none⟩, 1, 1, [.int .i64 n]⟩) (hn : 0 ≤ n ∧ n ≤ 4194304) (hN : 0 ≤ N ∧ N ≤ 35184372087808) :
    Calls Try.prog 12 #[.pointer (some ⟨wb, 0, none⟩), .int .i64 N] wx (fun e' w' => e' = .returned (.bool (decide (4194304 < n + 100 + N))) ∧ Hold base w' (updR R (5, 0, 0) ⟨34, 1, some ⟨wb, 0, none⟩, 1, 1, [.int .i64 (n + 100 + N)]⟩) ∧ Below base wx w') := by
  have d0 := H.cell e 0 _ rfl
  have f0 := H.frozen e 0
  have HP := Lib.hid (H.put e 0 (.int .i64 (n + 100 + N)))
  have HB := Lib.hid (H.putB e 0 (.int .i64 (n + 100 + N)))
  clear H e
  go_enter Try.func12, Try.ntmps12
  go_wp2
  go_ret
  exact ⟨rfl, HP.out, HB.out⟩
end
/-- A call that may be gone through: not too much is handed in. -/
def Fits (o : Op2) : Prop := o.sn ≤ 4194304 ∧ o.tn ≤ 4194304 ∧ o.mn ≤ 900000
def hnB (t : Nat × Nat × Nat) : Rw := ⟨3, 1, none, 0, 0, []⟩
theorem holdB (w : World) : Hold w.heap.size w hnB := ⟨fun t => World.ownsRow_nil _ _ _ _, fun t s _ g hg => absurd hg (by simp [hnB, Rw.v, Value.ownBlock]), Nat.le_refl _⟩
theorem nil_dis {R : Nat × Nat × Nat → Rw} (E : TypeId) (t : Nat × Nat × Nat) : ∀ s, s ≠ t → ∀ g, (⟨E, 1, none, 0, 0, []⟩ : Rw).v.ownBlock = some g → (R s).v.ownBlock ≠ some g := fun s _ g hg => by simp [Rw.v, Value.ownBlock] at hg
/-- The second part: a book, how much is kept, what was got and what was wanted. -/
structure FrS (w : World) (bb qb : Nat) (R : Nat × Nat × Nat → Rw) (K : Nat) (mu mq : Int) (G : Nat) (go wo : Option Addr) (gc wc : Nat) (wr : World) : Prop where
  h : Hold w.heap.size wr R
  b : Bk2 R (20, 0, 0) 20 43 2 bb [] K mu
  q : R (30, 0, 0) = ⟨43, 2, some ⟨qb, 0, none⟩, 1, 1, [.slice none 0 0, .int .i64 mq]⟩
  g1 : G ≤ 83886
  g2 : (G : Int) * 400 ≤ mq
  l1 : R (40, 0, 0) = ⟨25, 1, go, G, gc, (List.range G).map fun j => (R (40, 1, j)).v⟩
  l2 : R (41, 0, 0) = ⟨25, 1, wo, G, wc, (List.range G).map fun j => (R (41, 1, j)).v⟩
  e : ∀ j, j < G → ∃ (zs : List Int) (a1 a2 : Option Addr) (n1 c1 n2 c2 : Nat), zs.length ≤ 4194304 ∧ (∀ i, -9223372036854775808 ≤ zs.getD i 0 ∧ zs.getD i 0 ≤ 9223372036854775807) ∧ R (40, 1, j) = lsR a1 n1 c1 zs ∧ R (41, 1, j) = lsR a2 n2 c2 zs
  bl : Below w.heap.size w wr
theorem FrS.congr {w wr wr' : World} {bb qb K G gc wc : Nat} {R R' : Nat × Nat × Nat → Rw} {mu mq : Int} {go wo : Option Addr} (h : FrS w bb qb R K mu mq G go wo gc wc wr) (h' : Hold w.heap.size wr' R') (hN : ∀ t, t.1 ≠ 7 → t.1 ≠ 10 → t.1 ≠ 11 → R' t = R t) (hb : Below w.heap.size wr wr') : FrS w bb qb R' K mu mq G go wo gc wc wr' := by
  refine ⟨h', h.b.congr (hN _ (by simp) (by simp) (by simp)) (fun t ht => hN t (by rw [ht]; simp) (by rw [ht]; simp) (by rw [ht]; simp)), (hN _ (by simp) (by simp) (by simp)).trans h.q, h.g1, h.g2, ?_, ?_, fun j hj => ?_, h.bl.trans hb⟩
  · rw [hN _ (by simp) (by simp) (by simp), h.l1]; congr 1; exact List.map_congr_left fun j _ => by rw [hN _ (by simp) (by simp) (by simp)]
  · rw [hN _ (by simp) (by simp) (by simp), h.l2]; congr 1; exact List.map_congr_left fun j _ => by rw [hN _ (by simp) (by simp) (by simp)]
  · obtain ⟨zs, a1, a2, n1, c1, n2, c2, z1, z2, z3, z4⟩ := h.e j hj
    exact ⟨zs, a1, a2, n1, c1, n2, c2, z1, z2, by rw [hN _ (by simp) (by simp) (by simp)]; exact z3, by rw [hN _ (by simp) (by simp) (by simp)]; exact z4⟩
/-- More is kept. -/
theorem FrS.full {w wr w' : World} {bb qb K G gc wc : Nat} {R : Nat × Nat × Nat → Rw} {mu mq mq' : Int} {go wo : Option Addr} (h : FrS w bb qb R K mu mq G go wo gc wc wr) (h' : Hold w.heap.size w' (updR R (30, 0, 0) ⟨43, 2, some ⟨qb, 0, none⟩, 1, 1, [.slice none 0 0, .int .i64 mq']⟩)) (hb : Below w.heap.size wr w') (hm : mq ≤ mq') :
    FrS w bb qb (updR R (30, 0, 0) ⟨43, 2, some ⟨qb, 0, none⟩, 1, 1, [.slice none 0 0, .int .i64 mq']⟩) K mu mq' G go wo gc wc w' := by
  have hN : ∀ t, t ≠ (30, 0, 0) → updR R (30, 0, 0) ⟨43, 2, some ⟨qb, 0, none⟩, 1, 1, [.slice none 0 0, .int .i64 mq']⟩ t = R t := fun t ht => updR_ne ht
  refine ⟨h', h.b.congr (hN _ (by simp)) (fun t ht => hN t (fun e => by rw [e] at ht; cases ht)), updR_eq, h.g1, by have := h.g2; omega, ?_, ?_, fun j hj => ?_, h.bl.trans hb⟩
  · rw [hN _ (by simp), h.l1]; congr 1
  · rw [hN _ (by simp), h.l2]; congr 1
  · obtain ⟨zs, a1, a2, n1, c1, n2, c2, z1, z2, z3, z4⟩ := h.e j hj
    exact ⟨zs, a1, a2, n1, c1, n2, c2, z1, z2, by rw [hN _ (by simp)]; exact z3, by rw [hN _ (by simp)]; exact z4⟩
/-- A list more is got, and one wanted. -/
theorem FrS.push {w wr w5 : World} {bb qb K G gc wc gc' wc' k : Nat} {R : Nat × Nat × Nat → Rw} {mu mq mq' : Int} {go wo go' wo' : Option Addr} (h : FrS w bb qb R K mu mq G go wo gc wc wr) (hm : mq + 400 ≤ mq') (hm2 : mq' ≤ 33554432)
    {zs : List Int} {a1 a2 : Option Addr} {n1 c1 n2 c2 : Nat} (hz : zs.length ≤ 4194304) (hr : ∀ i, -9223372036854775808 ≤ zs.getD i 0 ∧ zs.getD i 0 ≤ 9223372036854775807) (e1 : R (10, 1, k) = lsR a1 n1 c1 zs) (e2 : R (11, 1, k) = lsR a2 n2 c2 zs)
    (h5 : Hold w.heap.size w5 (updR (updR (updR R (30, 0, 0) ⟨43, 2, some ⟨qb, 0, none⟩, 1, 1, [.slice none 0 0, .int .i64 mq']⟩) (40, 0, 0) ⟨25, 1, go', G + 1, gc', ((List.range G).map fun j => (R (40, 1, j)).v) ++ [.slice a1 n1 c1]⟩) (41, 0, 0) ⟨25, 1, wo', G + 1, wc', ((List.range G).map fun j => (R (41, 1, j)).v) ++ [.slice a2 n2 c2]⟩)) (hb : Below w.heap.size wr w5) :
    ∃ R', FrS w bb qb R' K mu mq' (G + 1) go' wo' gc' wc' w5 ∧ (∀ t, t ≠ (30, 0, 0) → t ≠ (40, 0, 0) → t ≠ (41, 0, 0) → t ≠ (40, 1, G) → t ≠ (41, 1, G) → t ≠ (10, 1, k) → t ≠ (11, 1, k) → R' t = R t) := by
  have h6 := (h5.move (10, 1, k) (40, 1, G) (by simp)).move (11, 1, k) (41, 1, G) (by simp)
  have x10 : updR (updR (updR R (30, 0, 0) ⟨43, 2, some ⟨qb, 0, none⟩, 1, 1, [.slice none 0 0, .int .i64 mq']⟩) (40, 0, 0) ⟨25, 1, go', G + 1, gc', ((List.range G).map fun j => (R (40, 1, j)).v) ++ [.slice a1 n1 c1]⟩) (41, 0, 0) ⟨25, 1, wo', G + 1, wc', ((List.range G).map fun j => (R (41, 1, j)).v) ++ [.slice a2 n2 c2]⟩ (10, 1, k) = lsR a1 n1 c1 zs := by rw [updR_ne (by simp), updR_ne (by simp), updR_ne (by simp)]; exact e1
  rw [x10] at h6
  rw [updR_ne (show (11, 1, k) ≠ (40, 1, G) by simp), updR_ne (show (11, 1, k) ≠ (10, 1, k) by simp), updR_ne (show (11, 1, k) ≠ (41, 0, 0) by simp), updR_ne (show (11, 1, k) ≠ (40, 0, 0) by simp), updR_ne (show (11, 1, k) ≠ (30, 0, 0) by simp), e2] at h6
  have hN : ∀ t, t ≠ (30, 0, 0) → t ≠ (40, 0, 0) → t ≠ (41, 0, 0) → t ≠ (40, 1, G) → t ≠ (41, 1, G) → t ≠ (10, 1, k) → t ≠ (11, 1, k) → _ = R t := fun t q1 q2 q3 q4 q5 q6 q7 => (updR_ne (r := lsR a2 n2 c2 zs) q5).trans ((updR_ne (r := Rw.nil) q7).trans ((updR_ne (r := lsR a1 n1 c1 zs) q4).trans ((updR_ne (r := Rw.nil) q6).trans ((updR_ne (r := ⟨25, 1, wo', G + 1, wc', ((List.range G).map fun j => (R (41, 1, j)).v) ++ [Value.slice a2 n2 c2]⟩) q3).trans ((updR_ne (r := ⟨25, 1, go', G + 1, gc', ((List.range G).map fun j => (R (40, 1, j)).v) ++ [Value.slice a1 n1 c1]⟩) q2).trans (updR_ne (r := ⟨43, 2, some ⟨qb, 0, none⟩, 1, 1, [.slice none 0 0, .int .i64 mq']⟩) q1))))))
  refine ⟨_, ⟨h6, h.b.congr (hN _ (by simp) (by simp) (by simp) (by simp) (by simp) (by simp) (by simp)) (fun t ht => hN t (fun e => by rw [e] at ht; cases ht) (fun e => by rw [e] at ht; cases ht) (fun e => by rw [e] at ht; cases ht) (fun e => by rw [e] at ht; cases ht) (fun e => by rw [e] at ht; cases ht) (fun e => by rw [e] at ht; cases ht) (fun e => by rw [e] at ht; cases ht)), ?_, by have := h.g2; omega, by have := h.g2; push_cast; omega, ?_, ?_, fun j hj => ?_, h.bl.trans hb⟩, hN⟩
  · rw [updR_ne (by simp), updR_ne (by simp), updR_ne (by simp), updR_ne (by simp), updR_ne (by simp), updR_ne (by simp), updR_eq]
  · have e : ∀ j, j < G → (updR (updR (updR (updR (updR (updR (updR R (30, 0, 0) ⟨43, 2, some ⟨qb, 0, none⟩, 1, 1, [.slice none 0 0, .int .i64 mq']⟩) (40, 0, 0) ⟨25, 1, go', G + 1, gc', ((List.range G).map fun j => (R (40, 1, j)).v) ++ [Value.slice a1 n1 c1]⟩) (41, 0, 0) ⟨25, 1, wo', G + 1, wc', ((List.range G).map fun j => (R (41, 1, j)).v) ++ [Value.slice a2 n2 c2]⟩) (10, 1, k) Rw.nil) (40, 1, G) (lsR a1 n1 c1 zs)) (11, 1, k) Rw.nil) (41, 1, G) (lsR a2 n2 c2 zs)) (40, 1, j) = R (40, 1, j) := fun j hj => hN _ (by simp) (by simp) (by simp) (by simp; omega) (by simp) (by simp) (by simp)
    rw [updR_ne (by simp), updR_ne (by simp), updR_ne (by simp), updR_ne (by simp), updR_ne (by simp), updR_eq, List.range_succ, List.map_append, List.map_singleton]
    congr 2
    · exact List.map_congr_left fun j hj => by rw [e j (List.mem_range.1 hj)]
    · rw [updR_ne (by simp), updR_ne (by simp), updR_eq]; rfl
  · have e : ∀ j, j < G → (updR (updR (updR (updR (updR (updR (updR R (30, 0, 0) ⟨43, 2, some ⟨qb, 0, none⟩, 1, 1, [.slice none 0 0, .int .i64 mq']⟩) (40, 0, 0) ⟨25, 1, go', G + 1, gc', ((List.range G).map fun j => (R (40, 1, j)).v) ++ [Value.slice a1 n1 c1]⟩) (41, 0, 0) ⟨25, 1, wo', G + 1, wc', ((List.range G).map fun j => (R (41, 1, j)).v) ++ [Value.slice a2 n2 c2]⟩) (10, 1, k) Rw.nil) (40, 1, G) (lsR a1 n1 c1 zs)) (11, 1, k) Rw.nil) (41, 1, G) (lsR a2 n2 c2 zs)) (41, 1, j) = R (41, 1, j) := fun j hj => hN _ (by simp) (by simp) (by simp) (by simp) (by simp; omega) (by simp) (by simp)
    rw [updR_ne (by simp), updR_ne (by simp), updR_ne (by simp), updR_ne (by simp), updR_eq, List.range_succ, List.map_append, List.map_singleton]
    congr 2
    · exact List.map_congr_left fun j hj => by rw [e j (List.mem_range.1 hj)]
    · rw [updR_eq]; rfl
  · by_cases ej : j = G
    · subst ej
      exact ⟨zs, a1, a2, n1, c1, n2, c2, hz, hr, by rw [updR_ne (by simp), updR_ne (by simp), updR_eq], by rw [updR_eq]⟩
    · obtain ⟨zs', a1', a2', n1', c1', n2', c2', z1, z2, z3, z4⟩ := h.e j (by omega)
      exact ⟨zs', a1', a2', n1', c1', n2', c2', z1, z2, by rw [hN _ (by simp) (by simp) (by simp) (by simpa using ej) (by simp) (by simp) (by simp)]; exact z3, by rw [hN _ (by simp) (by simp) (by simp) (by simp) (by simpa using ej) (by simp) (by simp)]; exact z4⟩
set_option maxRecDepth 100000 in
set_option maxHeartbeats 6400000 in
theorem walkShapeFresh {w : World} {ao : Option Addr} {n c : Nat} {os : Nat → Op2} (hO : Op2s w ao n c os) :
    Calls Try.prog 4 #[.slice ao n c] w (RetB w (.bool true)) := by
  have BG := Lib.hid (begun2_any w)
  have hbig := hO.big
  have hcap := hO.cap
  have HOP := Lib.hid hO
  have HSC : Hid (∀ k, k < n → ∃ b off, ao = some ⟨b, off, none⟩ ∧ ∀ wy, Below w.heap.size w wy → ∀ j v, (os k).cells[j]? = some v → wy.cell? ⟨b, off + (k * 5 + j), none⟩ = some v) := fun k hk => by
    obtain ⟨b, off, e, hbl, hcs⟩ := hO.mem (by omega)
    exact ⟨b, off, e, fun wy hy j v hj => (hy.cell (p := ⟨b, off + (k * 5 + j), none⟩) hbl).trans (hcs k hk j v hj)⟩
  clear hO
  go_enter Try.func4, Try.ntmps4
  go_wp2_with fail
  refine BG.out.mono ?_; rintro e w1 ⟨rfl, hb1⟩
  obtain ⟨W2, HW2⟩ : ∃ z, Hid (w1.alloc (.cells #[.int .i64 0] 34) = z) := ⟨_, rfl⟩
  have h2 := ((holdB w).via hb1).alloc (5, 0, 0) (cs := #[.int .i64 0]) (E := 34) (sz := 1) (n := 1) rfl (by decide)
  have hB2 : Below w.heap.size w W2 := by rw [← HW2.out]; exact hb1.trans ((abal _ _).mono hb1.size)
  rw [HW2.out] at h2
  obtain ⟨wb, HWB⟩ : ∃ z, Hid (w1.heap.size = z) := ⟨_, rfl⟩
  rw [HWB.out] at h2
  have HS : Hid (∃ R, Hold w.heap.size W2 R ∧ R (5, 0, 0) = ⟨34, 1, some ⟨wb, 0, none⟩, 1, 1, [.int .i64 0]⟩ ∧ Below w.heap.size w W2) := ⟨_, h2, updR_eq, hB2⟩
  clear hb1 h2 hB2
  have hWB := HWB.out
  go_upto_block 0 with fail
  rw [HW2.out]
  go_cut [4] from 24 to 39 (fun v4 wx => ∃ k : Nat, k ≤ n ∧ k ≤ 41943 ∧ v4 = .int .i64 k ∧ Hid (∀ j, j < k → Fits (os j)) ∧ Hid (∃ R, Hold w.heap.size wx R ∧ Below w.heap.size w wx))
  case first =>
    go_wp2_with fail
    go_loopw [4] (fun v4 wr => ∃ (k : Nat) (n0 : Int), k ≤ n ∧ v4 = .int .i64 k ∧ (k : Int) * 100 ≤ n0 ∧ n0 ≤ 4194304 ∧ Hid (∀ j, j < k → Fits (os j)) ∧ Hid (∃ R, Hold w.heap.size wr R ∧ R (5, 0, 0) = ⟨34, 1, some ⟨wb, 0, none⟩, 1, 1, [.int .i64 n0]⟩ ∧ Below w.heap.size w wr)) (fun v4 _ => n - (RowKit.intOf v4).toNat)
    case atStart => exact ⟨0, 0, Nat.zero_le _, rfl, by omega, by omega, fun j hj => absurd hj (Nat.not_lt_zero _), HS⟩
    case round =>
      clear HS
      obtain ⟨k, n0, hk, rfl, hn1, hn2, HFI, HS⟩ := hrel
      obtain ⟨R, h1, e5, hB1⟩ := HS.out
      have hfin : ∀ T : World → Prop, True := fun _ => trivial
      by_cases hlt : k < n
      · have hlt' : (k : Int) < n := by omega
        obtain ⟨b, off, rfl, hcs⟩ := HSC.out k hlt
        have HIS := Lib.hid (HOP.out.is k hlt)
        obtain ⟨o, HOK⟩ : ∃ o, Hid (os k = o) := ⟨_, rfl⟩
        rw [HOK.out] at hcs HIS
        have CZ := Lib.hid (size2q_any (HIS.out.below hB1 (Nat.le_refl _)))
        obtain ⟨kk, sa, sn, sc, s, ta, tn, tc, t, nn, ma, mn, mc, m⟩ := o
        simp only [Op2.cells] at CZ
        have d0 : wr.cell? ⟨b, off + k * 5, none⟩ = some (.int .i64 kk) := by exact hcs wr hB1 0 _ rfl
        have d1 : wr.cell? ⟨b, off + k * 5 + 1, none⟩ = some (.slice sa sn sc) := by rw [Nat.add_assoc]; exact hcs wr hB1 1 _ rfl
        have d2 : wr.cell? ⟨b, off + k * 5 + 2, none⟩ = some (.slice ta tn tc) := by rw [Nat.add_assoc]; exact hcs wr hB1 2 _ rfl
        have d3 : wr.cell? ⟨b, off + k * 5 + 3, none⟩ = some (.int .i64 nn) := by rw [Nat.add_assoc]; exact hcs wr hB1 3 _ rfl
        have d4 : wr.cell? ⟨b, off + k * 5 + 4, none⟩ = some (.slice ma mn mc) := by rw [Nat.add_assoc]; exact hcs wr hB1 4 _ rfl
        have H1 := Lib.hid (And.intro h1 (And.intro e5 hB1))
        clear hcs h1 e5 hB1 HS
        go_wp2_with fail
        refine CZ.out.mono ?_; rintro e w3 ⟨N, rfl, hN0, hN1, hN2, hN3, hB3⟩
        have CO := Lib.hid (over2h_any (H1.out.1.via hB3) H1.out.2.1 ⟨by omega, hn2⟩ ⟨hN0, hN1⟩)
        have HB3 : Hid (Below w.heap.size w w3) := H1.out.2.2.trans (hB3.mono H1.out.1.base)
        have HN2 := Lib.hid (And.intro hN2 hN3)
        clear hB3 hN2 hN3 d0 d1 d2 d3 d4
        obtain ⟨T, hT⟩ : ∃ T : Int, n0 + 100 + N = T := ⟨_, rfl⟩
        have HT := Lib.hid hT
        rw [hT] at CO
        clear hT
        by_cases hov : 4194304 < T
        · have hdd : decide (4194304 < T) = true := by simpa using hov
          rw [hdd] at CO
          go_wp2_with fail
          refine CO.out.mono ?_; rintro e w4 ⟨rfl, h4, hB4⟩
          have HS4 : Hid (∃ R, Hold w.heap.size w4 R ∧ Below w.heap.size w w4) := ⟨_, h4, HB3.out.trans hB4⟩
          have hk3 : k ≤ 41943 := by omega
          clear h4 hB4
          go_wp2_with fail
          go_meet
          exact ⟨k, hk, hk3, rfl, HFI, HS4⟩
        · have hdd : decide (4194304 < T) = false := by simpa using hov
          rw [hdd] at CO
          go_wp2_with fail
          refine CO.out.mono ?_; rintro e w4 ⟨rfl, h4, hB4⟩
          have HS4 : Hid (∃ R, Hold w.heap.size w4 R ∧ R (5, 0, 0) = ⟨34, 1, some ⟨wb, 0, none⟩, 1, 1, [.int .i64 T]⟩ ∧ Below w.heap.size w w4) := ⟨_, h4, updR_eq, HB3.out.trans hB4⟩
          have HFI2 : Hid (∀ j, j < k + 1 → Fits (os j)) := fun j hj => by
            by_cases e : j = k
            · subst e
              rw [HOK.out]
              have h1 := HT.out
              have h2 := HN2.out.1 (by omega)
              have h3 := HN2.out.2
              exact ⟨by show sn ≤ _; omega, by show tn ≤ _; omega, by show mn ≤ _; omega⟩
            · exact HFI.out j (by omega)
          have hT1 : ((k + 1 : Nat) : Int) * 100 ≤ T := by have := HT.out; push_cast; omega
          clear h4 hB4
          go_wp2
          go_roundw
          case rel => exact ⟨k + 1, T, by omega, by go_num, hT1, by omega, HFI2, HS4⟩
          case measure => simp [RowKit.intOf]; omega
      · have hge : (n : Int) ≤ k := by omega
        have HS4 : Hid (∃ R, Hold w.heap.size wr R ∧ Below w.heap.size w wr) := ⟨R, h1, hB1⟩
        have hk3 : k ≤ 41943 := by omega
        clear h1 e5 hB1 HS
        go_wp2_with fail
        go_meet
        exact ⟨k, hk, hk3, rfl, HFI, HS4⟩
  case rest =>
    clear HS HW2
    obtain ⟨N, hNn, hN4, rfl, HFI, HS⟩ := hcut
    obtain ⟨W3, hW3⟩ : ∃ z : World, z = wc := ⟨_, rfl⟩
    subst hW3
    have hNi : (N : Int) ≤ n := by omega
    have hNc : (N : Int) ≤ c := by omega
    obtain ⟨R3, h3, hB3⟩ := HS.out
    obtain ⟨W4, HW4⟩ : ∃ z, Hid (W3.alloc (.cells #[.slice none 0 0, .int .i64 0] 43) = z) := ⟨_, rfl⟩
    have h4 := (h3.alloc (20, 0, 0) (cs := #[.slice none 0 0, .int .i64 0]) (E := 43) (sz := 2) (n := 1) rfl (by decide)).add (20, 1, 0) (r := ⟨25, 1, none, 0, 0, []⟩) (World.ownsRow_nil _ _ _ _) (nil_dis _ _)
    have hB4 : Below w.heap.size w W4 := by rw [← HW4.out]; exact hB3.trans ((abal _ _).mono h3.base)
    rw [HW4.out] at h4
    obtain ⟨bb, HBB⟩ : ∃ z, Hid (W3.heap.size = z) := ⟨_, rfl⟩
    rw [HBB.out] at h4
    have HS4 : Hid (∃ R K mu, Hold w.heap.size W4 R ∧ Bk2 R (20, 0, 0) 20 43 2 bb [] K mu ∧ mu ≤ 0 * 279467065344 ∧ Below w.heap.size w W4) := by
      refine ⟨_, 0, 0, h4, ⟨?_, ⟨none, 0, ?_⟩, fun k hk => absurd hk (Nat.not_lt_zero _), by omega, by omega, by omega⟩, by omega, hB4⟩
      · rw [updR_ne (by simp), updR_eq, updR_eq]; rfl
      · rw [updR_eq]; rfl
    have hBB := HBB.out
    clear h3 hB3 h4 hB4 HS
    go_wp2_with fail
    rw [HW4.out]
    go_loopw [6, 7, 8, 9] (fun v6 v7 v8 v9 wr => ∃ i : Nat, i ≤ N ∧ v6 = .int .i64 i ∧ Hid (∃ R K mu, Hold w.heap.size wr R ∧ Bk2 R (20, 0, 0) 20 43 2 bb [] K mu ∧ mu ≤ i * 279467065344 ∧ Below w.heap.size w wr)) (fun v6 _ _ _ _ => N - (RowKit.intOf v6).toNat)
    case atStart => exact ⟨0, Nat.zero_le _, rfl, HS4⟩
    case round =>
      clear HS4
      obtain ⟨i, hi, rfl, HS⟩ := hrel
      obtain ⟨R, K, mu, h1, b1, hmu, hB1⟩ := HS.out
      by_cases hlt : i < N
      · have hlt' : (i : Int) < N := by omega
        obtain ⟨b, off, rfl, hcs⟩ := HSC.out i (by omega)
        have HIS := Lib.hid (HOP.out.is i (by omega))
        have hft := HFI.out i hlt
        obtain ⟨o, HOK⟩ : ∃ o, Hid (os i = o) := ⟨_, rfl⟩
        rw [HOK.out] at hcs HIS hft
        have CL := Lib.hid (lists2_any h1 HIS.out (Nat.le_refl _) hB1 hft.2.2 hft.1 hft.2.1)
        obtain ⟨kk, sa, sn, sc, s, ta, tn, tc, t, nn, ma, mn, mc, m⟩ := o
        simp only [Op2.cells] at CL
        have d0 : wr.cell? ⟨b, off + i * 5, none⟩ = some (.int .i64 kk) := by exact hcs wr hB1 0 _ rfl
        have d1 : wr.cell? ⟨b, off + i * 5 + 1, none⟩ = some (.slice sa sn sc) := by rw [Nat.add_assoc]; exact hcs wr hB1 1 _ rfl
        have d2 : wr.cell? ⟨b, off + i * 5 + 2, none⟩ = some (.slice ta tn tc) := by rw [Nat.add_assoc]; exact hcs wr hB1 2 _ rfl
        have d3 : wr.cell? ⟨b, off + i * 5 + 3, none⟩ = some (.int .i64 nn) := by rw [Nat.add_assoc]; exact hcs wr hB1 3 _ rfl
        have d4 : wr.cell? ⟨b, off + i * 5 + 4, none⟩ = some (.slice ma mn mc) := by rw [Nat.add_assoc]; exact hcs wr hB1 4 _ rfl
        have B1 := Lib.hid (And.intro b1 (And.intro hmu hB1))
        clear hcs h1 b1 hmu hB1 HS hft
        go_wp2_with fail
        refine CL.out.mono ?_; rintro e w3 ⟨R5, ln, lo, mo, lc, mc5, rfl, hln, h5, l10, l11, he, hN5, hB5⟩
        have b5 := B1.out.1.congr (R' := R5) (hN5 _ (by simp) (by simp) (by simp)) (fun t ht => hN5 t (by rw [ht]; simp) (by rw [ht]; simp) (by rw [ht]; simp))
        have hmu5 := B1.out.2.1
        have CT := Lib.hid (take2_any (q := (10, 0, 0)) (p := 10) h5 b5 (by simp) (by simp) (by simp) (by simp) (by simp) l10 (fun j hj => by
          obtain ⟨zs, a1, a2, n1, c1, n2, c2, hz, hr, e1, e2⟩ := he j hj
          have hc := (h5.cap e1).2.2.1
          rw [List.length_map, Nat.mul_one] at hc
          exact ⟨a1, n1, c1, _, by omega, e1⟩) (by omega))
        have HB5 : Hid (Below w.heap.size w w3) := B1.out.2.2.trans hB5
        have HLN : Hid (ln ≤ 4096) := hln
        clear d0 d1 d2 d3 d4 h5 l10 l11 he hN5 hB5 b5 hln
        go_wp2_with fail
        refine CT.out.mono ?_; rintro e w4 ⟨rfl, K7, mu7, R7, hK7, h7, b7, hN7, hB7, hm7, hm8⟩
        have HS7 : Hid (∃ R K mu, Hold w.heap.size w4 R ∧ Bk2 R (20, 0, 0) 20 43 2 bb [] K mu ∧ mu ≤ (i + 1 : Nat) * 279467065344 ∧ Below w.heap.size w w4) := ⟨R7, K7, mu7, h7, b7, by
          have h1 := B1.out.2.1
          have h2 := HLN.out
          push_cast
          have h3 : (ln : Int) * 68229264 ≤ 279467065344 := by omega
          omega, HB5.out.trans hB7⟩
        have CW := Lib.hid (whole2_any h7 b7)
        clear h7 b7 hN7 hB7 hm7 hm8
        by_cases h64 : (i : Int) % 64 = 0
        · have h64' : ((i : Int) % 64 == 0) = true := by simpa using h64
          go_wp2_with fail
          refine CW.out.mono ?_; rintro e w5 ⟨rfl, hw5⟩
          have hw5' := hw5.symm
          subst hw5'
          go_wp2
          go_roundw
          case rel => exact ⟨i + 1, by omega, by go_num, HS7⟩
          case measure => simp [RowKit.intOf]; omega
        · have h64' : ((i : Int) % 64 == 0) = false := by simpa using h64
          go_wp2
          go_roundw
          case rel => exact ⟨i + 1, by omega, by go_num, HS7⟩
          case measure => simp [RowKit.intOf]; omega
      · have hge : (N : Int) ≤ i := by omega
        obtain rfl : i = N := by omega
        obtain ⟨W5, HW5⟩ : ∃ z, Hid (wr.alloc (.cells #[.slice none 0 0, .int .i64 0] 43) = z) := ⟨_, rfl⟩
        obtain ⟨qb, HQB⟩ : ∃ z, Hid (wr.heap.size = z) := ⟨_, rfl⟩
        have h5 := ((h1.alloc (30, 0, 0) (cs := #[.slice none 0 0, .int .i64 0]) (E := 43) (sz := 2) (n := 1) rfl (by decide)).add (40, 0, 0) (r := ⟨25, 1, none, 0, 0, []⟩) (World.ownsRow_nil _ _ _ _) (nil_dis _ _)).add (41, 0, 0) (r := ⟨25, 1, none, 0, 0, []⟩) (World.ownsRow_nil _ _ _ _) (nil_dis _ _)
        have hB5 : Below w.heap.size w W5 := by rw [← HW5.out]; exact hB1.trans ((abal _ _).mono h1.base)
        rw [HW5.out, HQB.out] at h5
        have hS5 : ∃ R5, FrS w bb qb R5 K mu 0 0 none none 0 0 W5 := by
          refine ⟨_, h5, b1.congr (by rw [updR_ne (by simp), updR_ne (by simp), updR_ne (by simp)]) (fun t ht => by rw [updR_ne (fun e => by rw [e] at ht; cases ht), updR_ne (fun e => by rw [e] at ht; cases ht), updR_ne (fun e => by rw [e] at ht; cases ht)]), ?_, by omega, by omega, ?_, ?_, fun j hj => absurd hj (Nat.not_lt_zero _), hB5⟩
          · rw [updR_ne (by simp), updR_ne (by simp), updR_eq]
          · rw [updR_ne (by simp), updR_eq]; rfl
          · rw [updR_eq]; rfl
        have HS5 : Hid (∃ R K mu mq, FrS w bb qb R K mu mq 0 none none 0 0 W5 ∧ mq ≤ (0 : Nat) * 549757452288) := by
          obtain ⟨R5, hS5⟩ := hS5
          exact ⟨R5, K, mu, 0, hS5, by omega⟩
        have hQB := HQB.out
        clear h1 b1 hmu hB1 HS h5 hB5 hS5 HBB hBB HWB hWB hlt
        go_wp2_with fail
        rw [HW5.out]
        go_loopw [11, 12, 13, 14, 15, 16, 17] (fun v11 v12 v13 v14 v15 v16 v17 wr => ∃ (i3 G : Nat) (go wo : Option Addr) (gc wc : Nat), i3 ≤ 2 * i ∧ v13 = .int .i64 i3 ∧ v11 = .slice go G gc ∧ v12 = .slice wo G wc ∧ Hid (∃ R K mu mq, FrS w bb qb R K mu mq G go wo gc wc wr ∧ mq ≤ i3 * 549757452288)) (fun _ _ v13 _ _ _ _ _ => 2 * i - (RowKit.intOf v13).toNat)
        case atStart => exact ⟨0, 0, none, none, 0, 0, Nat.zero_le _, rfl, rfl, rfl, HS5⟩
        case round =>
          clear HS5 HW5 hQB HQB
          obtain ⟨i3, G, go, wo, gc, wc, hi3, rfl, rfl, rfl, HS⟩ := hrel
          obtain ⟨R, K, mu, mq, h1, hmq⟩ := HS.out
          by_cases hlt : i3 < 2 * i
          · have hlt' : (i3 : Int) < 2 * i := by omega
            obtain ⟨p, hp⟩ : ∃ p : Nat, (i3 : Int) / 2 = p := ⟨i3 / 2, by omega⟩
            have hpi : p < i := by omega
            have hpi' : (p : Int) < i := by omega
            obtain ⟨b, off, rfl, hcs⟩ := HSC.out p (by omega)
            have HIS := Lib.hid (HOP.out.is p (by omega))
            have hft := HFI.out p hpi
            obtain ⟨o, HOK⟩ : ∃ o, Hid (os p = o) := ⟨_, rfl⟩
            rw [HOK.out] at hcs HIS hft
            have hB1 := h1.bl
            have CL := Lib.hid (lists2_any h1.h HIS.out (Nat.le_refl _) hB1 hft.2.2 hft.1 hft.2.1)
            obtain ⟨kk, sa, sn, sc, s, ta, tn, tc, t, nn, ma, mn, mc, m⟩ := o
            simp only [Op2.cells] at CL
            have d0 : wr.cell? ⟨b, off + p * 5, none⟩ = some (.int .i64 kk) := by exact hcs wr hB1 0 _ rfl
            have d1 : wr.cell? ⟨b, off + p * 5 + 1, none⟩ = some (.slice sa sn sc) := by rw [Nat.add_assoc]; exact hcs wr hB1 1 _ rfl
            have d2 : wr.cell? ⟨b, off + p * 5 + 2, none⟩ = some (.slice ta tn tc) := by rw [Nat.add_assoc]; exact hcs wr hB1 2 _ rfl
            have d3 : wr.cell? ⟨b, off + p * 5 + 3, none⟩ = some (.int .i64 nn) := by rw [Nat.add_assoc]; exact hcs wr hB1 3 _ rfl
            have d4 : wr.cell? ⟨b, off + p * 5 + 4, none⟩ = some (.slice ma mn mc) := by rw [Nat.add_assoc]; exact hcs wr hB1 4 _ rfl
            have H1 := Lib.hid (And.intro h1 hmq)
            clear hcs h1 hB1 HS hft hmq
            go_wp2_with fail
            refine CL.out.mono ?_; rintro e w3 ⟨R5, ln, lo, mo, lc, mc5, rfl, hln, h5, l10, l11, he, hN5, hB5⟩
            have hF5 := H1.out.1.congr h5 hN5 hB5
            have L10 := Lib.hid l10
            have L11 := Lib.hid l11
            have HE := Lib.hid he
            have HLN := Lib.hid hln
            have hc10 := h5.cap l10
            have hc11 := h5.cap l11
            have HC10 := Lib.hid (And.intro hc10 hc11)
            have hm5 := H1.out.2
            have HI4 : Hid (∃ R mq, FrS w bb qb R K mu mq G go wo gc wc w3 ∧ mq ≤ i3 * 549757452288 + (0 : Nat) * 134218128 ∧ R (10, 0, 0) = R5 (10, 0, 0) ∧ R (11, 0, 0) = R5 (11, 0, 0) ∧ ∀ j, 0 ≤ j → R (10, 1, j) = R5 (10, 1, j) ∧ R (11, 1, j) = R5 (11, 1, j)) := ⟨R5, mq, hF5, by omega, rfl, rfl, fun j _ => ⟨rfl, rfl⟩⟩
            clear d0 d1 d2 d3 d4 h5 l10 l11 he hN5 hB5 hF5 hln hc10 hc11 hm5
            have hln4 : ln ≤ 4096 := HLN.out
            go_wp2_with fail
            go_loopw [11, 12, 17] (fun v11 v12 v17 wr => ∃ (k G : Nat) (go wo : Option Addr) (gc wc : Nat), k ≤ ln ∧ v17 = .int .i64 k ∧ v11 = .slice go G gc ∧ v12 = .slice wo G wc ∧ Hid (∃ R mq, FrS w bb qb R K mu mq G go wo gc wc wr ∧ mq ≤ i3 * 549757452288 + k * 134218128 ∧ R (10, 0, 0) = R5 (10, 0, 0) ∧ R (11, 0, 0) = R5 (11, 0, 0) ∧ ∀ j, k ≤ j → R (10, 1, j) = R5 (10, 1, j) ∧ R (11, 1, j) = R5 (11, 1, j))) (fun _ _ v17 _ => ln - (RowKit.intOf v17).toNat)
            case atStart => exact ⟨0, G, go, wo, gc, wc, Nat.zero_le _, rfl, rfl, rfl, HI4⟩
            case round =>
              clear HI4 H1 CL
              obtain ⟨k, G, go, wo, gc, wc, hk, rfl, rfl, rfl, HI⟩ := hrel
              obtain ⟨R, mq, h1, hmq, r10, r11, rj⟩ := HI.out
              by_cases hlk : k < ln
              · have hlk' : (k : Int) < ln := by omega
                obtain ⟨zs, a1, a2, n1, c1, n2, c2, hz, hr, x1, x2⟩ := HE.out k hlk
                obtain ⟨rj1, rj2⟩ := rj k (Nat.le_refl _)
                obtain ⟨g10, rfl⟩ := HC10.out.1.2.2.2.2 (by have := HC10.out.1.1; omega)
                obtain ⟨g11, rfl⟩ := HC10.out.2.2.2.2.2 (by have := HC10.out.2.1; omega)
                have hc1 := (h1.h.cap (rj1.trans x1)).2.2.1
                rw [List.length_map, Nat.mul_one] at hc1
                have hn1 : n1 ≤ 4194304 := by omega
                have e10 := h1.h.cell (r10.trans L10.out) k (.slice a1 n1 c1) (by rw [List.getElem?_map, List.getElem?_range hlk]; simp only [Option.map_some, x1, lsR, Rw.v])
                have hmb : (mq : Int) + 400 + 32 * (n1 : Int) ≤ 4611686018427387904 := by have := HLN.out; omega
                have hm0 : 0 ≤ mq := by have := h1.g2; omega
                obtain ⟨V6, hV6⟩ : ∃ z : Int, 32 * (n1 : Int) = z := ⟨_, rfl⟩
                have hwV : IntKind.i64.wrap (32 * (n1 : Int)) = V6 := by rw [hV6]; exact IntWalk.i64_in _ (by omega)
                have CF := Lib.hid (full2_any h1.h h1.q (n := V6) hm0 (by omega) (by omega))
                obtain ⟨mq2, hmq2⟩ : ∃ z : Int, mq + 400 + V6 = z := ⟨_, rfl⟩
                rw [hmq2] at CF
                have HZ : Hid (mq + 400 ≤ mq2 ∧ mq2 ≤ i3 * 549757452288 + (k + 1 : Nat) * 134218128) := ⟨by omega, by push_cast; omega⟩
                have H1 := Lib.hid h1
                have HR := Lib.hid (And.intro r10 (And.intro r11 rj))
                have HX := Lib.hid (And.intro (rj1.trans x1) (rj2.trans x2))
                have HZS := Lib.hid (And.intro hz hr)
                have X12 := Lib.hid (And.intro x1 x2)
                clear h1 hmq r10 r11 rj HI x1 x2 rj1 rj2 hz hr hmb hm0 hV6 hmq2 hc1
                go_wp2_with fail
                refine CF.out.mono ?_; rintro e w4 ⟨rfl, h4, hB4⟩
                have H4 := Lib.hid h4
                have HB4 := Lib.hid hB4
                clear h4 hB4 CF e10
                by_cases hf : 33554432 < mq2
                · have hdd : decide (33554432 < mq2) = true := by simpa using hf
                  try rw [hdd]
                  have HF : Hid (∃ R mq, FrS w bb qb R K mu mq G go wo gc wc w4 ∧ mq ≤ i3 * 549757452288 + (k + 1 : Nat) * 134218128 ∧ R (10, 0, 0) = R5 (10, 0, 0) ∧ R (11, 0, 0) = R5 (11, 0, 0) ∧ ∀ j, k + 1 ≤ j → R (10, 1, j) = R5 (10, 1, j) ∧ R (11, 1, j) = R5 (11, 1, j)) := by
                    refine ⟨_, mq2, H1.out.full H4.out HB4.out (by have := HZ.out.1; omega), HZ.out.2, ?_, ?_, fun j hj => ⟨?_, ?_⟩⟩
                    · rw [updR_ne (by simp)]; exact HR.out.1
                    · rw [updR_ne (by simp)]; exact HR.out.2.1
                    · rw [updR_ne (by simp)]; exact (HR.out.2.2 j (by omega)).1
                    · rw [updR_ne (by simp)]; exact (HR.out.2.2 j (by omega)).2
                  go_wp2
                  go_roundw
                  case rel => exact ⟨k + 1, G, go, wo, gc, wc, by omega, by go_num, rfl, rfl, HF⟩
                  case measure => simp [RowKit.intOf]; omega
                · have hdd : decide (33554432 < mq2) = false := by simpa using hf
                  try rw [hdd]
                  have hmq2 : mq2 ≤ 33554432 := by omega
                  have HMQ := Lib.hid hmq2
                  have hG : (G + 1) * 24 ≤ 140737488355328 := by have := H1.out.g1; omega
                  have hG2 : G + 1 ≤ maxLen := by unfold maxLen; have := H1.out.g1; omega
                  obtain ⟨i1, hi1, hz01, hz11, hz21⟩ := info_parts (P := Try.prog) (e := 25) (z := .slice none 0 0) (size := 1) (bytes := 24) (by kernel_rfl)
                  obtain ⟨R4, HR4⟩ : ∃ z, Hid (updR R (30, 0, 0) ⟨43, 2, some ⟨qb, 0, none⟩, 1, 1, [.slice none 0 0, .int .i64 mq2]⟩ = z) := ⟨_, rfl⟩
                  have h4 := H4.out
                  rw [HR4.out] at h4
                  have r4N : Hid (∀ t, t ≠ (30, 0, 0) → R4 t = R t) := fun t ht => by rw [← HR4.out, updR_ne ht]
                  have e10 := h4.cell ((r4N.out _ (by simp)).trans (HR.out.1.trans L10.out)) k (.slice a1 n1 c1) (by rw [List.getElem?_map, List.getElem?_range hlk]; simp only [Option.map_some, X12.out.1, lsR, Rw.v])
                  have HA1 := Lib.hid (h4.via (abal w4 (.cells #[.slice a1 n1 c1] 25)))
                  have H4' := Lib.hid h4
                  have u40 : Hid (R4 (40, 0, 0) = ⟨25, 1, go, G, gc, (List.range G).map fun j => (R (40, 1, j)).v⟩) := (r4N.out _ (by simp)).trans H1.out.l1
                  have u41 : Hid (R4 (41, 0, 0) = ⟨25, 1, wo, G, wc, (List.range G).map fun j => (R (41, 1, j)).v⟩) := (r4N.out _ (by simp)).trans H1.out.l2
                  have N1 : Hid (∀ (j : Nat) (u : Value), [Value.slice a1 n1 c1][j]? = some u → (w4.alloc (.cells #[.slice a1 n1 c1] 25)).cell? (Addr.add ⟨w4.heap.size, 0, none⟩ j) = some u) := by
                    intro j u hj
                    cases j with
                    | zero => simp at hj; subst hj; simp [go_sem]
                    | succ j => simp at hj
                  clear h4 hmq2 hf
                  go_wp2_with (at_builtin; refine Hold.wpList_app HA1.out rfl _ _ 29 rfl (40, 0, 0) 25 i1 (.slice none 0 0) 1 24 Try.underlying29 hi1 hz01 hz11 hz21 rfl (by decide) u40.out rfl ⟨w4.heap.size, 0, none⟩ 1 1 rfl [.slice a1 n1 c1] rfl N1.out (by intro u hu; simp at hu; subst hu; rfl) hG2 hG ?_)
                  intro go' gc' w5 h5 hB5
                  have e11 := h5.cell ((updR_ne (by simp)).trans ((r4N.out _ (by simp)).trans (HR.out.2.1.trans L11.out))) k (.slice a2 n2 c2) (by rw [List.getElem?_map, List.getElem?_range hlk]; simp only [Option.map_some, X12.out.2, lsR, Rw.v])
                  have HA2 := Lib.hid (h5.via (abal w5 (.cells #[.slice a2 n2 c2] 25)))
                  have H5 := Lib.hid h5
                  have HB5 := Lib.hid (((abal w4 (.cells #[.slice a1 n1 c1] 25)).mono H4'.out.base).trans hB5)
                  have N2 : Hid (∀ (j : Nat) (u : Value), [Value.slice a2 n2 c2][j]? = some u → (w5.alloc (.cells #[.slice a2 n2 c2] 25)).cell? (Addr.add ⟨w5.heap.size, 0, none⟩ j) = some u) := by
                    intro j u hj
                    cases j with
                    | zero => simp at hj; subst hj; simp [go_sem]
                    | succ j => simp at hj
                  clear h5 hB5 e10
                  go_wp2_with (at_builtin; refine Hold.wpList_app HA2.out rfl _ _ 29 rfl (41, 0, 0) 25 i1 (.slice none 0 0) 1 24 Try.underlying29 hi1 hz01 hz11 hz21 rfl (by decide) ((updR_ne (by simp)).trans u41.out) rfl ⟨w5.heap.size, 0, none⟩ 1 1 rfl [.slice a2 n2 c2] rfl N2.out (by intro u hu; simp at hu; subst hu; rfl) hG2 hG ?_)
                  intro wo' wc' w6 h6 hB6
                  have HF : Hid (∃ R mq, FrS w bb qb R K mu mq (G + 1) go' wo' gc' wc' w6 ∧ mq ≤ i3 * 549757452288 + (k + 1 : Nat) * 134218128 ∧ R (10, 0, 0) = R5 (10, 0, 0) ∧ R (11, 0, 0) = R5 (11, 0, 0) ∧ ∀ j, k + 1 ≤ j → R (10, 1, j) = R5 (10, 1, j) ∧ R (11, 1, j) = R5 (11, 1, j)) := by
                    rw [← HR4.out] at h6
                    obtain ⟨R', hf', hN'⟩ := H1.out.push HZ.out.1 HMQ.out HZS.out.1 HZS.out.2 HX.out.1 HX.out.2 h6 (HB4.out.trans (HB5.out.trans (((abal w5 (.cells #[.slice a2 n2 c2] 25)).mono H5.out.base).trans hB6)))
                    refine ⟨R', mq2, hf', HZ.out.2, ?_, ?_, fun j hj => ⟨?_, ?_⟩⟩
                    · rw [hN' _ (by simp) (by simp) (by simp) (by simp) (by simp) (by simp) (by simp)]; exact HR.out.1
                    · rw [hN' _ (by simp) (by simp) (by simp) (by simp) (by simp) (by simp) (by simp)]; exact HR.out.2.1
                    · rw [hN' _ (by simp) (by simp) (by simp) (by simp) (by simp) (by simp; omega) (by simp)]; exact (HR.out.2.2 j (by omega)).1
                    · rw [hN' _ (by simp) (by simp) (by simp) (by simp) (by simp) (by simp) (by simp; omega)]; exact (HR.out.2.2 j (by omega)).2
                  clear h6 hB6 e11
                  go_wp2
                  go_roundw
                  case rel => exact ⟨k + 1, G + 1, go', wo', gc', wc', by omega, by go_num, rfl, rfl, HF⟩
                  case measure => simp [RowKit.intOf]; omega
              · have hgk : (ln : Int) ≤ k := by omega
                have HF : Hid (∃ R K mu mq, FrS w bb qb R K mu mq G go wo gc wc wr ∧ mq ≤ (i3 + 1 : Nat) * 549757452288) := ⟨R, K, mu, mq, h1, by have := HLN.out; push_cast; omega⟩
                clear h1 hmq r10 r11 rj HI
                go_wp2
                go_roundw
                case rel => first | exact ⟨i3 + 1, G, go, wo, gc, wc, by omega, by go_num, rfl, rfl, HF⟩ | ((repeat apply Exists.intro); exact ⟨⟨i3 + 1, G, go, wo, gc, wc, by omega, by go_num, rfl, rfl, HF⟩, rfl⟩)
                case measure => simp [RowKit.intOf]; omega
          · have hge3 : (2 : Int) * i ≤ i3 := by omega
            have hG4 := h1.g1
            have hc40 := h1.h.cap h1.l1
            have hc41 := h1.h.cap h1.l2
            have HC := Lib.hid (And.intro hc40 hc41)
            have HS5 : Hid (FrS w bb qb R K mu mq G go wo gc wc wr) := h1
            clear h1 hmq HS hc40 hc41
            go_wp2_with fail
            go_loopw [18] (fun v18 wx => ∃ j : Nat, j ≤ G ∧ v18 = .int .i64 j ∧ Hid (FrS w bb qb R K mu mq G go wo gc wc wx)) (fun v18 _ => G - (RowKit.intOf v18).toNat)
            case atStart => exact ⟨0, Nat.zero_le _, rfl, HS5⟩
            case round =>
              clear HS5
              obtain ⟨j, hj, rfl, HJ⟩ := hrel
              by_cases hlj : j < G
              · have hlj' : (j : Int) < G := by omega
                obtain ⟨g40, rfl⟩ := HC.out.1.2.2.2.2 (by have := HC.out.1.1; omega)
                obtain ⟨g41, rfl⟩ := HC.out.2.2.2.2.2 (by have := HC.out.2.1; omega)
                obtain ⟨zs, a1, a2, n1, c1, n2, c2, hz, hr, x1, x2⟩ := HJ.out.e j hlj
                have k1 := HJ.out.h.cell HJ.out.l1 j (.slice a1 n1 c1) (by rw [List.getElem?_map, List.getElem?_range hlj]; simp only [Option.map_some, x1, lsR, Rw.v])
                have k2 := HJ.out.h.cell HJ.out.l2 j (.slice a2 n2 c2) (by rw [List.getElem?_map, List.getElem?_range hlj]; simp only [Option.map_some, x2, lsR, Rw.v])
                have q1 := (HJ.out.h.cap x1).2.2.1
                rw [List.length_map, Nat.mul_one] at q1
                have q2 := (HJ.out.h.cap x2).2.2.1
                rw [List.length_map, Nat.mul_one] at q2
                have CE := Lib.hid (fun m => eqints_self ((HJ.out.h.ls x1 (by omega) hr).drew m) ((HJ.out.h.ls x2 (by omega) hr).drew m))
                clear hz hr x1 x2 q1 q2
                go_wp2_with fail
                go_quiet (first | (with_reducible exact Ret.quiet (CE.out _)))
                have HF : Hid (FrS w bb qb R K mu mq G (some ⟨g40, 0, none⟩) (some ⟨g41, 0, none⟩) gc wc (wr.drewN nq)) := HJ.out.congr (HJ.out.h.via (adrew _ _)) (fun _ _ _ _ => rfl) ((adrew wr nq).mono HJ.out.h.base)
                clear k1 k2
                go_wp2
                go_roundw
                case rel => first | exact ⟨j + 1, by omega, by go_num, HF⟩ | ((repeat apply Exists.intro); exact ⟨⟨j + 1, by omega, by go_num, HF⟩, rfl⟩)
                case measure => simp [RowKit.intOf]; omega
              · have hgj : (G : Int) ≤ j := by omega
                obtain ⟨W7, HW7⟩ : ∃ z, Hid (wr.alloc (.cells #[.slice none 0 0, .int .i64 0] 43) = z) := ⟨_, rfl⟩
                obtain ⟨cb, HCB⟩ : ∃ z, Hid (wr.heap.size = z) := ⟨_, rfl⟩
                have h7 := (HJ.out.h.alloc (50, 0, 0) (cs := #[.slice none 0 0, .int .i64 0]) (E := 43) (sz := 2) (n := 1) rfl (by decide)).add (50, 1, 0) (r := ⟨25, 1, none, 0, 0, []⟩) (World.ownsRow_nil _ _ _ _) (nil_dis _ _)
                rw [HW7.out, HCB.out] at h7
                have hB7 : Below w.heap.size w W7 := by rw [← HW7.out]; exact HJ.out.bl.trans ((abal _ _).mono HJ.out.h.base)
                have hN7 : ∀ t, t ≠ (50, 0, 0) → t ≠ (50, 1, 0) → updR (updR R (50, 0, 0) ⟨43, 2, some ⟨cb, 0, none⟩, 1, 1, #[.slice none 0 0, .int .i64 0].toList⟩) (50, 1, 0) ⟨25, 1, none, 0, 0, []⟩ t = R t := fun t q1 q2 => (updR_ne q2).trans (updR_ne q1)
                have b7 : Bk2 (updR (updR R (50, 0, 0) ⟨43, 2, some ⟨cb, 0, none⟩, 1, 1, #[.slice none 0 0, .int .i64 0].toList⟩) (50, 1, 0) ⟨25, 1, none, 0, 0, []⟩) (50, 0, 0) 50 43 2 cb [] 0 0 := by
                  refine ⟨?_, ⟨none, 0, ?_⟩, fun k hk => absurd hk (Nat.not_lt_zero _), by omega, by omega, by omega⟩
                  · rw [updR_ne (by simp), updR_eq, updR_eq]; rfl
                  · rw [updR_eq]; rfl
                have bK : Bk2 (updR (updR R (50, 0, 0) ⟨43, 2, some ⟨cb, 0, none⟩, 1, 1, #[.slice none 0 0, .int .i64 0].toList⟩) (50, 1, 0) ⟨25, 1, none, 0, 0, []⟩) (20, 0, 0) 20 43 2 bb [] K mu := HJ.out.b.congr (hN7 _ (by simp) (by simp)) (fun t ht => hN7 t (fun e => by rw [e] at ht; cases ht) (fun e => by rw [e] at ht; cases ht))
                have CT := Lib.hid (take2_any (q := (40, 0, 0)) (p := 40) (N := G) (la := go) (lc := gc) h7 b7 (by simp) (by simp) (by simp) (by simp) (by simp) ((hN7 _ (by simp) (by simp)).trans (HJ.out.l1.trans (by congr 1))) (fun j hj => by
                  obtain ⟨zs, a1, a2, n1, c1, n2, c2, hz, hr, e1, e2⟩ := HJ.out.e j hj
                  have hc := (HJ.out.h.cap e1).2.2.1
                  rw [List.length_map, Nat.mul_one] at hc
                  exact ⟨a1, n1, c1, _, by omega, (hN7 _ (by simp) (by simp)).trans e1⟩) (by omega))
                have HBK := Lib.hid (And.intro bK hB7)
                have hCB := HCB.out
                clear h7 hB7 hN7 b7 bK HCB
                go_wp2_with fail
                rw [HW7.out]
                refine CT.out.mono ?_; rintro e w8 ⟨rfl, K8, mu8, R8, hK8, h8, b8, hN8, hB8, hm8, hm9⟩
                have bK8 := HBK.out.1.congr (R' := R8) (hN8 _ (by simp) (by simp) (by simp) (by simp)) (fun t ht => hN8 t (fun e => by rw [e] at ht; cases ht) (fun e => by rw [e] at ht; cases ht) (fun k e => by rw [e] at ht; cases ht) (fun k e => by rw [e] at ht; cases ht))
                have C1 := Lib.hid (whole2_any h8 bK8)
                have C2 := Lib.hid (whole2_any h8 b8)
                have HF : Hid (Below w.heap.size w w8) := HBK.out.2.trans hB8
                clear h8 b8 hN8 hB8 hm8 hm9 bK8 hCB
                go_wp2_with fail
                refine C1.out.mono ?_; rintro e w9 ⟨rfl, hw9⟩
                have hw9' := hw9.symm
                subst hw9'
                go_wp2_with fail
                refine C2.out.mono ?_; rintro e w9 ⟨rfl, hw9⟩
                have hw9' := hw9.symm
                subst hw9'
                go_wp2
                go_ret
                exact RetB.mk rfl HF.out
end Go.Proofs.Ytdedbfbkakofgaa

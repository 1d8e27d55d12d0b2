/- The book of layer 4 (abacuslaw4): TakeArrays, AllWhole. -/
import Derived.Test.YtoippfoeghjdoaaTake2
namespace Go.Proofs.Ytoippfoeghjdoaa
open Go.RowKit Go.Lib
set_option linter.unusedVariables false
set_option linter.unusedSimpArgs false
attribute [local go_sem] alloc_drewN setCell_drewN
theorem pairs4_at (f g : Nat → Value) : ∀ (n k : Nat), k < n → ((List.range n).flatMap fun k => [f k, g k])[k * 2]? = some (f k) ∧ ((List.range n).flatMap fun k => [f k, g k])[k * 2 + 1]? = some (g k)
  | 0, k, h => absurd h (Nat.not_lt_zero _)
  | n + 1, k, h => by
    have hl : ∀ n : Nat, ((List.range n).flatMap fun k => [f k, g k]).length = n * 2 := fun n => by
      induction n with
      | zero => rfl
      | succ m ih => rw [List.range_succ, List.flatMap_append, List.length_append, ih]; simp; omega
    rw [List.range_succ, List.flatMap_append]
    by_cases e : k = n
    · subst e
      rw [List.getElem?_append_right (by rw [hl]; omega), List.getElem?_append_right (by rw [hl]; omega), hl]
      rw [show k * 2 - k * 2 = 0 by omega, show k * 2 + 1 - k * 2 = 1 by omega]
      exact ⟨rfl, rfl⟩
    · rw [List.getElem?_append_left (by rw [hl]; omega), List.getElem?_append_left (by rw [hl]; omega)]
      exact pairs4_at f g n k (by omega)
/-- The rows (o, ..) are a book of lists of both kinds, each full of its mark. -/
structure Bk4 (R : Nat × Nat × Nat → Rw) (o bb K : Nat) (mu : Int) (L : Nat) : Prop where
  b2 : Bk2 R (o, 0, 0) o 50 3 bb [(R (o, 2, 0)).v] K mu
  l2 : ∃ ao c, R (o, 2, 0) = ⟨28, 1, ao, L, c, (List.range L).map fun k => (R (o, 4, k)).v⟩
  e2 : ∀ k, k < L → ∃ ao n c, n ≤ 4264304 ∧ R (o, 4, k) = ⟨2, 1, ao, n, c, List.replicate n (.int .i64 (mkB k))⟩
  sl : (L : Int) * 400 ≤ mu
  lb : L ≤ 83886
section
variable {base : Nat} {w : World} {R : Nat × Nat × Nat → Rw} {o bb p K L : Nat} {mu mu' : Int}
theorem Hold.wpList_app4 {P : Program} (h : Hold base w R) {ops : Array Oper} {rest : List Oper} {o : Oper} {a : Act} {Q : Exit → Act → World → Prop} (hgd : o.guard = none) (s x : Operand) (t : TypeId)
    (ho : o.op = .call { callee := .builtin .append, args := #[s, x], argTypes := #[t, t] })
    (tg : Nat × Nat × Nat) (e : TypeId) (i : TypeInfo) (z : Value) (size bytes : Nat) (ht : P.underlying t = some (.slice e)) (hi : P.info? e = some i) (hz : i.zero = some z)
    (hsize : i.size = size) (hby : i.bytes = bytes) (hzs : z.cells.size = size) (hsz : 0 < size)
    {ao : Option Addr} {n c : Nat} {xs : List Value} (hr : R tg = ⟨e, size, ao, n, c, xs⟩) (hs : a.eval s = .slice ao n c)
    (ad : Addr) (m c' : Nat) (hx : a.eval x = .slice (some ad) m c') (news : List Value) (hl : news.length = m * size) (hnews : ∀ j u, news[j]? = some u → w.cell? (ad.add j) = some u) (h1 : ∀ u ∈ news, u.oneCell' = true)
    (h63 : n + m ≤ maxLen) (hbytes : (n + m) * bytes ≤ 140737488355328)
    (hk : ∀ bo d w', Hold base w' (updR R tg ⟨e, size, bo, n + m, d, xs ++ news⟩) → Below base w w' → wpList P ops Q rest (a.put o.dst (.slice bo (n + m) d)) w') : wpList P ops Q (o :: rest) a w :=
  wpList_plain hgd fun _ hK => h.wp_append s x t ho tg e i z size bytes ht hi hz hsize hby hzs hsz hr hs ad m c' hx news hl hnews h1 h63 hbytes fun bo d w' h1 h2 => hK _ _ (hk bo d w' h1 h2)
theorem Bk4.much (B : Bk4 R o bb K mu L) {v1 v2 : Value} (hv : (R (o, 1, 0)).v = v1) (hv2 : (R (o, 2, 0)).v = v2) (h : mu ≤ mu') (h2 : mu' ≤ 4611686018427387904) : Bk4 (updR R (o, 0, 0) ⟨50, 3, some ⟨bb, 0, none⟩, 1, 1, [v1, .int .i64 mu', v2]⟩) o bb K mu' L := by
  have hb := B.b2.much hv h h2
  rw [hv2] at hb
  have n2 : updR R (o, 0, 0) ⟨50, 3, some ⟨bb, 0, none⟩, 1, 1, [v1, .int .i64 mu', v2]⟩ (o, 2, 0) = R (o, 2, 0) := updR_ne (by simp)
  obtain ⟨ao, c, l2⟩ := B.l2
  refine ⟨by rw [n2, hv2]; exact hb, ⟨ao, c, ?_⟩, fun k hk => ?_, by have := B.sl; omega, B.lb⟩
  · rw [n2, l2]
    congr 1
    exact List.map_congr_left fun k _ => by rw [updR_ne (by simp)]
  · rw [updR_ne (by simp)]; exact B.e2 k hk
/-- A book with a list of atoms more. -/
theorem Bk4.more {R' : Nat × Nat × Nat → Rw} (B : Bk4 R o bb K mu L) (hz : ((L + 1 : Nat) : Int) * 400 ≤ mu) (hz2 : mu ≤ 33554432) {b1 sa : Option Addr} {d1 sn sc : Nat}
    (e0 : R' (o, 0, 0) = ⟨50, 3, some ⟨bb, 0, none⟩, 1, 1, [(R (o, 1, 0)).v, .int .i64 mu, .slice b1 (L + 1) d1]⟩)
    (e1 : R' (o, 2, 0) = ⟨28, 1, b1, L + 1, d1, ((List.range L).map fun k => (R (o, 4, k)).v) ++ [.slice sa sn sc]⟩)
    (e3 : R' (o, 4, L) = ⟨2, 1, sa, sn, sc, List.replicate sn (.int .i64 (mkB L))⟩) (hn1 : sn ≤ 4264304) (h3 : ∀ k, k < L → R' (o, 4, k) = R (o, 4, k)) (h4 : ∀ k, R' (o, 3, k) = R (o, 3, k)) (h5 : R' (o, 1, 0) = R (o, 1, 0)) : Bk4 R' o bb K mu (L + 1) := by
  refine ⟨⟨?_, ?_, fun k hk => ?_, B.b2.s0, B.b2.s1, B.b2.kb⟩, ⟨b1, d1, ?_⟩, fun k hk => ?_, hz, by omega⟩
  · rw [e0, e1, h5]; rfl
  · obtain ⟨ao, c, e⟩ := B.b2.l1
    refine ⟨ao, c, ?_⟩
    rw [h5, e]
    congr 1
    exact List.map_congr_left fun k _ => by rw [h4]
  · rw [h4]; exact B.b2.e1 k hk
  · rw [e1, List.range_succ, List.map_append, List.map_singleton, e3]
    congr 2
    exact List.map_congr_left fun k hk => by rw [h3 k (by simpa using hk)]
  · by_cases e : k = L
    · subst e; exact ⟨_, _, _, hn1, e3⟩
    · rw [h3 k (by omega)]; exact B.e2 k (by omega)
/-- A book with a list of atoms grown. -/
theorem Bk4.grown {R' : Nat × Nat × Nat → Rw} (B : Bk4 R o bb K mu L) {k : Nat} (hk : k < L) {b1 bo1 : Option Addr} {d1 n1 c1 : Nat}
    (l2 : R (o, 2, 0) = ⟨28, 1, b1, L, d1, (List.range L).map fun k => (R (o, 4, k)).v⟩) (e0 : R' (o, 0, 0) = R (o, 0, 0))
    (e1 : R' (o, 2, 0) = ⟨28, 1, b1, L, d1, ((List.range L).map fun k => (R (o, 4, k)).v).set k (.slice bo1 n1 c1)⟩)
    (e3 : R' (o, 4, k) = ⟨2, 1, bo1, n1, c1, List.replicate n1 (.int .i64 (mkB k))⟩) (hn1 : n1 ≤ 4264304) (h3 : ∀ j, j ≠ k → R' (o, 4, j) = R (o, 4, j)) (h4 : ∀ k, R' (o, 3, k) = R (o, 3, k)) (h5 : R' (o, 1, 0) = R (o, 1, 0)) : Bk4 R' o bb K mu L := by
  have hob := B.b2.obj
  refine ⟨⟨?_, ?_, fun k hk => ?_, B.b2.s0, B.b2.s1, B.b2.kb⟩, ⟨b1, d1, ?_⟩, fun j hj => ?_, B.sl, B.lb⟩
  · rw [e0, hob, e1, h5, l2]; rfl
  · obtain ⟨ao, c, e⟩ := B.b2.l1
    refine ⟨ao, c, ?_⟩
    rw [h5, e]
    congr 1
    exact List.map_congr_left fun k _ => by rw [h4]
  · rw [h4]; exact B.b2.e1 k hk
  · rw [e1, map_set hk (fun k => (R (o, 4, k)).v) (fun k => (R' (o, 4, k)).v) _ (by rw [e3]; rfl) (fun j hj => by rw [h3 j hj])]
  · by_cases e : j = k
    · subst e; exact ⟨_, _, _, hn1, e3⟩
    · rw [h3 j e]; exact B.e2 j hj
/-- The first i arrays are looked at. -/
def T4 (base : Nat) (w : World) (R : Nat × Nat × Nat → Rw) (o bb p K : Nat) (mu : Int) (L i : Nat) (so : Option Addr) (sc : Nat) (wx : World) : Prop :=
  ∃ (L' : Nat) (mu' : Int) (R' : Nat × Nat × Nat → Rw), L ≤ L' ∧ Hold base wx R' ∧ Bk4 R' o bb K mu' L' ∧ R' (8, 0, 0) = ⟨25, 1, so, i, sc, (List.range i).map fun k => (R (p, 1, k)).v⟩ ∧ (∀ j, i ≤ j → R' (p, 2, j) = R (p, 2, j)) ∧ (∀ j, R' (p, 1, j) = R (p, 1, j)) ∧
    (∀ t, t.1 ≠ o → t.1 ≠ p → t.1 ≠ 8 → R' t = R t) ∧ Below base w wx ∧ mu ≤ mu' ∧ mu' ≤ mu + i * 68229264 ∧ (∀ k, L ≤ k → k < L' → (R' (o, 4, k)).n ≤ 4194304)
/-- Behind TakeArrays. -/
def TakeP4 (base : Nat) (w : World) (R : Nat × Nat × Nat → Rw) (o bb p : Nat) (mu : Int) (N : Nat) (wx : World) : Prop :=
  ∃ (K' L' : Nat) (mu' : Int) (R' : Nat × Nat × Nat → Rw), Hold base wx R' ∧ Bk4 R' o bb K' mu' L' ∧ (∀ t, t.1 ≠ o → t.1 ≠ p → t.1 ≠ 8 → R' t = R t) ∧ Below base w wx ∧ mu ≤ mu' ∧ mu' ≤ mu + N * 136458528
set_option maxRecDepth 100000 in
set_option maxHeartbeats 1600000 in
theorem allWhole4_any (H : Hold base w R) (B : Bk4 R o bb K mu L) :
    Calls Try.prog 17 #[.pointer (some ⟨bb, 0, none⟩)] w (RetS w (.bool true)) := by
  obtain ⟨ao1, c1, l1⟩ := B.l2
  have hob := B.b2.obj
  rw [l1] at hob
  simp only [Rw.v] at hob
  have d0 : w.cell? ⟨bb, 2, none⟩ = some (.slice ao1 L c1) := H.cell hob 2 _ rfl
  have hk4 := B.lb
  have P1 := H.cap l1
  have CW := Lib.hid (whole2_any H B.b2)
  have HH := Lib.hid H
  have HB := Lib.hid B
  have HL1 := Lib.hid l1
  have HP1 := Lib.hid P1
  clear H B hob l1 P1
  go_enter Try.func17, Try.ntmps17
  go_wp2_with fail
  go_loopw [3, 4] (fun v3 v4 wr => ∃ k : Nat, k ≤ L ∧ v3 = .int .i64 k ∧ wr = w) (fun v3 _ _ => L - (RowKit.intOf v3).toNat)
  case atStart => exact ⟨0, Nat.zero_le _, rfl, rfl⟩
  case round =>
    obtain ⟨k, hk, rfl, rfl⟩ := hrel
    by_cases hlt : k < L
    · have hlt' : (k : Int) < L := by omega
      obtain ⟨g1, hg1⟩ := HP1.out.2.2.2.2 (by have := HP1.out.1; omega)
      subst hg1
      obtain ⟨bo1, n1, x1, hn1, e1⟩ := HB.out.e2 k hlt
      have r1 : wr.cell? ⟨g1, k, none⟩ = some (.slice bo1 n1 x1) := HH.out.cell HL1.out k _ (by rw [List.getElem?_map, List.getElem?_range hlt]; simp only [Option.map_some, e1, Rw.v])
      obtain ⟨m1, HM1⟩ : ∃ z, Hid (mkB k = z) := ⟨_, rfl⟩
      have hw1 : IntKind.i64.wrap (-1 - (k : Int)) = m1 := by rw [← HM1.out]; exact IntWalk.i64_in _ (by omega)
      have hb1 : (m1 != m1) = false := by simp
      rw [HM1.out] at e1
      have E1 := Lib.hid e1
      have HK1 := Lib.hid (HH.out.cap e1)
      clear e1
      go_wp2_with fail
      go_loopw [4] (fun v4 w4 => ∃ j : Nat, j ≤ n1 ∧ v4 = .int .i64 j ∧ w4 = wr) (fun v4 _ => n1 - (RowKit.intOf v4).toNat)
      case atStart => exact ⟨0, Nat.zero_le _, rfl, rfl⟩
      case round =>
        obtain ⟨j, hj, rfl, rfl⟩ := hrel
        by_cases hlj : j < n1
        · have hlj' : (j : Int) < n1 := by omega
          obtain ⟨q, hq⟩ := HK1.out.2.2.2.2 (by have := HK1.out.1; omega)
          subst hq
          have s1 := HH.out.cell E1.out j (.int .i64 m1) (by rw [List.getElem?_replicate, if_pos hlj])
          go_wp2
          go_roundw
          case rel => first | exact ⟨j + 1, by omega, by go_num, by first | rfl | trivial⟩ | ((repeat apply Exists.intro); exact ⟨⟨j + 1, by omega, by go_num, rfl⟩, rfl⟩)
          case measure => simp [RowKit.intOf]; omega
        · have hge : (n1 : Int) ≤ j := by omega
          go_wp2
          go_roundw
          case rel => first | exact ⟨k + 1, by omega, by go_num, by first | rfl | trivial⟩ | ((repeat apply Exists.intro); exact ⟨⟨k + 1, by omega, by go_num, rfl⟩, rfl⟩)
          case measure => simp [RowKit.intOf]; omega
    · have hge : (L : Int) ≤ k := by omega
      go_wp2_with fail
      refine CW.out.mono ?_; rintro e w5 ⟨rfl, hw5⟩
      have hw5' := hw5.symm
      subst hw5'
      go_wp2
      go_ret
      exact RetS.mk rfl
end
end Go.Proofs.Ytoippfoeghjdoaa

/- The book of layer 3 (abacuslaw3): an array taken, marked, grown over the room behind it. The book of layer 3 (abacuslaw3): Take of one array. -/
import Derived.Test.YtdedbfbkakofgaaAtomFreshM10
import Derived.Deep.RegionLaw
namespace Go.Proofs.Ytdedbfbkakofgaa
open Go.RowKit Go.Lib
set_option linter.unusedVariables false
set_option linter.unusedSimpArgs false
attribute [local go_sem] alloc_drewN setCell_drewN
section
variable {base : Nat} {w : World} {R : Nat × Nat × Nat → Rw} {o bb : Nat}
theorem updR_self {t : Nat × Nat × Nat} {r : Rw} (h : R t = r) : updR R t r = R := by
  funext s
  by_cases e : s = t
  · subst e; rw [updR_eq, h]
  · rw [updR_ne e]
theorem updR_two {t : Nat × Nat × Nat} {r r' : Rw} : updR (updR R t r) t r' = updR R t r' := by
  funext s
  by_cases e : s = t
  · subst e; rw [updR_eq, updR_eq]
  · rw [updR_ne e, updR_ne e, updR_ne e]
theorem set_rep {xs : List Value} {m : Value} {j : Nat} (h : j < xs.length) : (List.replicate j m ++ xs.drop j).set j m = List.replicate (j + 1) m ++ xs.drop (j + 1) := by
  rw [List.set_append_right _ _ (by simp)]
  simp only [List.length_replicate, Nat.sub_self]
  rw [List.drop_eq_getElem_cons h, List.set_cons_zero, List.replicate_succ', List.append_assoc]
  rfl
/-- A book with an array more. -/
theorem Bk.more {K : Nat} {sz sz' : Int} {R' : Nat × Nat × Nat → Rw} (B : Bk R o bb K sz) (hz1 : sz ≤ 33554432) (hz : sz + 800 ≤ sz') (hz2 : sz' ≤ 1152921504606846976)
    {b1 b2 sa aa : Option Addr} {d1 d2 sn sc an ac : Nat}
    (e0 : R' (o, 0, 0) = ⟨62, 3, some ⟨bb, 0, none⟩, 1, 1, [.slice b1 (K + 1) d1, .slice b2 (K + 1) d2, .int .i64 sz']⟩)
    (e1 : R' (o, 1, 0) = ⟨25, 1, b1, K + 1, d1, ((List.range K).map fun k => (R (o, 3, k)).v) ++ [.slice sa sn sc]⟩)
    (e2 : R' (o, 2, 0) = ⟨50, 1, b2, K + 1, d2, ((List.range K).map fun k => (R (o, 4, k)).v) ++ [.slice aa an ac]⟩)
    (e3 : R' (o, 3, K) = ⟨3, 1, sa, sn, sc, List.replicate sn (.int .i64 (mk1 K))⟩) (e4 : R' (o, 4, K) = ⟨2, 1, aa, an, ac, List.replicate an (.int .i64 (mk2 K))⟩)
    (hn1 : sn ≤ 17592186200000) (hn2 : an ≤ 17592186200000) (h3 : ∀ k, k < K → R' (o, 3, k) = R (o, 3, k)) (h4 : ∀ k, k < K → R' (o, 4, k) = R (o, 4, k)) : Bk R' o bb (K + 1) sz' := by
  have s0 := B.s0
  have kb := B.kb
  refine ⟨by rw [e0, e1, e2]; rfl, ⟨b1, d1, ?_⟩, ⟨b2, d2, ?_⟩, fun k hk => ?_, fun k hk => ?_, by push_cast; omega, hz2, by omega⟩
  · rw [e1, List.range_succ, List.map_append, List.map_singleton, e3]
    congr 2
    exact List.map_congr_left fun k hk => by rw [h3 k (by simpa using hk)]
  · rw [e2, List.range_succ, List.map_append, List.map_singleton, e4]
    congr 2
    exact List.map_congr_left fun k hk => by rw [h4 k (by simpa using hk)]
  · by_cases e : k = K
    · subst e; exact ⟨_, _, _, hn1, e3⟩
    · rw [h3 k (by omega)]; exact B.e1 k (by omega)
  · by_cases e : k = K
    · subst e; exact ⟨_, _, _, hn2, e4⟩
    · rw [h4 k (by omega)]; exact B.e2 k (by omega)
/-- A book with an array's lists grown. -/
theorem Bk.grown {K : Nat} {sz : Int} {R' : Nat × Nat × Nat → Rw} (B : Bk R o bb K sz) {k : Nat} (hk : k < K) {b1 b2 : Option Addr} {d1 d2 : Nat} {bo1 bo2 : Option Addr} {n1 c1 n2 c2 : Nat}
    (l1 : R (o, 1, 0) = ⟨25, 1, b1, K, d1, (List.range K).map fun k => (R (o, 3, k)).v⟩) (l2 : R (o, 2, 0) = ⟨50, 1, b2, K, d2, (List.range K).map fun k => (R (o, 4, k)).v⟩)
    (e0 : R' (o, 0, 0) = R (o, 0, 0))
    (e1 : R' (o, 1, 0) = ⟨25, 1, b1, K, d1, ((List.range K).map fun k => (R (o, 3, k)).v).set k (.slice bo1 n1 c1)⟩)
    (e2 : R' (o, 2, 0) = ⟨50, 1, b2, K, d2, ((List.range K).map fun k => (R (o, 4, k)).v).set k (.slice bo2 n2 c2)⟩)
    (e3 : R' (o, 3, k) = ⟨3, 1, bo1, n1, c1, List.replicate n1 (.int .i64 (mk1 k))⟩) (e4 : R' (o, 4, k) = ⟨2, 1, bo2, n2, c2, List.replicate n2 (.int .i64 (mk2 k))⟩)
    (hn1 : n1 ≤ 17592186200000) (hn2 : n2 ≤ 17592186200000) (h3 : ∀ j, j ≠ k → R' (o, 3, j) = R (o, 3, j)) (h4 : ∀ j, j ≠ k → R' (o, 4, j) = R (o, 4, j)) : Bk R' o bb K sz := by
  have key : ∀ (f g : Nat → Value) (v : Value), g k = v → (∀ j, j ≠ k → g j = f j) → ((List.range K).map f).set k v = (List.range K).map g := by
    intro f g v hv hfg
    apply List.ext_getElem?
    intro j
    rw [List.getElem?_set]
    by_cases e : k = j
    · subst e
      simp [hk, hv]
    · rw [if_neg e, List.getElem?_map, List.getElem?_map]
      cases hj : (List.range K)[j]? with
      | none => rfl
      | some q =>
        have hq : q = j := by
          obtain ⟨h1, h2⟩ := List.getElem?_eq_some_iff.1 hj
          rw [List.getElem_range] at h2; exact h2.symm
        subst hq
        simp [hfg q (fun e' => e e'.symm)]
  have hob := B.obj
  refine ⟨by rw [e0, hob, e1, e2, l1, l2]; rfl, ⟨b1, d1, ?_⟩, ⟨b2, d2, ?_⟩, fun j hj => ?_, fun j hj => ?_, B.s0, B.s1, B.kb⟩
  · rw [e1, key (fun k => (R (o, 3, k)).v) (fun k => (R' (o, 3, k)).v) _ (by rw [e3]; rfl) (fun j hj => by rw [h3 j hj])]
  · rw [e2, key (fun k => (R (o, 4, k)).v) (fun k => (R' (o, 4, k)).v) _ (by rw [e4]; rfl) (fun j hj => by rw [h4 j hj])]
  · by_cases e : j = k
    · subst e; exact ⟨_, _, _, hn1, e3⟩
    · rw [h3 j e]; exact B.e1 j hj
  · by_cases e : j = k
    · subst e; exact ⟨_, _, _, hn2, e4⟩
    · rw [h4 j e]; exact B.e2 j hj
end
end Go.Proofs.Ytdedbfbkakofgaa

namespace Go.Proofs.Ytdedbfbkakofgaa
open Go.RowKit Go.Lib
set_option linter.unusedVariables false
set_option linter.unusedSimpArgs false
attribute [local go_sem] alloc_drewN setCell_drewN
section
variable {base : Nat} {w : World} {R : Nat × Nat × Nat → Rw} {o bb : Nat}
def lenV : Value → Nat
  | .slice _ n _ => n
  | _ => 0
/-- Behind Take: a book again, and all that is not the book's is as it was. -/
def TakeP (base : Nat) (w : World) (R : Nat × Nat × Nat → Rw) (o bb : Nat) (K : Nat) (w' : World) : Prop :=
  ∃ (K' : Nat) (sz' : Int) (R' : Nat × Nat × Nat → Rw), K ≤ K' ∧ K' ≤ K + 1 ∧ Hold base w' R' ∧ Bk R' o bb K' sz' ∧ (∀ t, t.1 ≠ o → R' t = R t) ∧ Below base w w'
def TakeQ (base : Nat) (w : World) (R : Nat × Nat × Nat → Rw) (o bb : Nat) (K1 : Nat) (w' : World) : Prop :=
  ∃ (sz' : Int) (R' : Nat × Nat × Nat → Rw), Hold base w' R' ∧ Bk R' o bb K1 sz' ∧ (∀ t, t.1 ≠ o → R' t = R t) ∧ Below base w w'
/-- Behind the marking: a book, with the array or without. -/
def MidP (base : Nat) (w : World) (R : Nat × Nat × Nat → Rw) (o bb : Nat) (K : Nat) (w' : World) : Prop :=
  ∃ (K' : Nat) (sz' : Int) (R' : Nat × Nat × Nat → Rw), (K' = K ∨ (K' = K + 1 ∧ (∃ ao n c, n * 8 ≤ 140737488351232 ∧ R' (o, 3, K) = ⟨3, 1, ao, n, c, List.replicate n (.int .i64 (mk1 K))⟩) ∧ (∃ ao n c, n * 8 ≤ 140737488351232 ∧ R' (o, 4, K) = ⟨2, 1, ao, n, c, List.replicate n (.int .i64 (mk2 K))⟩))) ∧
    Hold base w' R' ∧ Bk R' o bb K' sz' ∧ (∀ t, t.1 ≠ o → R' t = R t) ∧ Below base w w'
set_option maxRecDepth 100000 in
set_option maxHeartbeats 6400000 in
theorem take_any {K : Nat} {sz : Int} {ab sn sc an ac : Nat} {sa aa : Option Addr} {xs ys : List Value} (H : Hold base w R) (B : Bk R o bb K sz)
    (hs : R (o, 3, K) = ⟨3, 1, sa, sn, sc, xs⟩) (ha : R (o, 4, K) = ⟨2, 1, aa, an, ac, ys⟩)
    (hbs : sn * 8 ≤ 140737488351232) (hba : an * 8 ≤ 140737488351232)
    (hab : R (o, 0, 1) = ⟨55, 2, some ⟨ab, 0, none⟩, 1, 1, [.slice sa sn sc, .slice aa an ac]⟩) :
    Calls Try.prog 26 #[.pointer (some ⟨bb, 0, none⟩), .slice (some ⟨ab, 0, none⟩) 1 1] w (fun e w' => e = .returned (.tuple #[]) ∧ TakeP base w R o bb K w') := by
  obtain ⟨ao1, c1, l1⟩ := B.l1
  obtain ⟨ao2, c2, l2⟩ := B.l2
  have hob := B.obj
  rw [l1, l2] at hob
  simp only [Rw.v] at hob
  have P3 := H.cap hs
  have P4 := H.cap ha
  have d0 : w.cell? ⟨bb, 0, none⟩ = some (.slice ao1 K c1) := H.cell hob 0 _ rfl
  have RM := Lib.hid (room_any H hob ⟨by have := B.s0; omega, B.s1⟩ (sa := sa) (aa := aa) (sc := sc) (ac := ac) hbs hba)
  have kb := B.kb
  have e0 : w.cell? ⟨ab, 0, none⟩ = some (.slice sa sn sc) := H.cell hab 0 _ rfl
  have e1 : w.cell? ⟨ab, 1, none⟩ = some (.slice aa an ac) := H.cell hab 1 _ rfl
  have HH := Lib.hid H
  have HB := Lib.hid B
  have HL1 := Lib.hid l1
  have HL2 := Lib.hid l2
  have HOB := Lib.hid hob
  have HS := Lib.hid hs
  have HA := Lib.hid ha
  have HAB := Lib.hid hab
  have HP3 := Lib.hid P3
  have HP4 := Lib.hid P4
  clear H B l1 l2 hob hs ha hab P3 P4
  go_enter Try.func26, Try.ntmps26
  go_wp2_with fail
  go_loopw [5, 6, 7, 8] (fun v5 v6 v7 v8 wr => ∃ i : Nat, v5 = .int .i64 i ∧ ((i = 0 ∧ wr = w) ∨ (i = 1 ∧ Hid (MidP base w R o bb K wr)))) (fun v5 _ _ _ _ => 1 - (RowKit.intOf v5).toNat)
  case atStart => exact ⟨0, rfl, .inl ⟨rfl, rfl⟩⟩
  case round =>
    obtain ⟨i, rfl, ⟨rfl, hw⟩ | ⟨rfl, HT⟩⟩ := hrel
    · have hw' := hw.symm
      subst hw'
      clear hw
      go_wp2_with fail
      refine RM.out.mono ?_; rintro e w1 (⟨rfl, h1, h2⟩ | ⟨rfl, hle, sz1, hz1, hz2, h1, h2⟩)
      · have HT : Hid (MidP base w R o bb K w1) := ⟨K, sz, R, .inl rfl, h1, HB.out, fun _ _ => rfl, h2⟩
        clear h1 h2 d0 e0 e1
        go_wp2
        go_roundw
        case rel => exact ⟨1, by go_num, .inr ⟨rfl, HT⟩⟩
        case measure => simp [RowKit.intOf]
      · skip
        obtain ⟨Ra, HRA⟩ : ∃ z, Hid (updR R (o, 0, 0) ⟨62, 3, some ⟨bb, 0, none⟩, 1, 1, [.slice ao1 K c1, .slice ao2 K c2, .int .i64 sz1]⟩ = z) := ⟨_, rfl⟩
        have HH1 : Hid (Hold base w1 Ra) := by show Hold _ _ _; rw [← HRA.out]; exact h1
        have HBL1 := Lib.hid h2
        have ra0 : Hid (Ra (o, 0, 0) = ⟨62, 3, some ⟨bb, 0, none⟩, 1, 1, [.slice ao1 K c1, .slice ao2 K c2, .int .i64 sz1]⟩) := by show _ = _; rw [← HRA.out]; exact updR_eq
        have raN : Hid (∀ t, t ≠ (o, 0, 0) → Ra t = R t) := fun t ht => by rw [← HRA.out]; exact updR_ne ht
        have rab : Hid (Ra (o, 0, 1) = ⟨55, 2, some ⟨ab, 0, none⟩, 1, 1, [.slice sa sn sc, .slice aa an ac]⟩) := (raN.out _ (by simp)).trans HAB.out
        have HZ := Lib.hid (And.intro hle (And.intro hz1 hz2))
        clear h1 h2 d0 e0 e1 hle hz1 hz2
        have da : w1.cell? ⟨bb, 0, none⟩ = some (.slice ao1 K c1) := HH1.out.cell ra0.out 0 _ rfl
        have ea0 := HH1.out.cell rab.out 0 _ rfl
        obtain ⟨m1, HM1⟩ : ∃ z, Hid (mk1 K = z) := ⟨_, rfl⟩
        obtain ⟨m2, HM2⟩ : ∃ z, Hid (mk2 K = z) := ⟨_, rfl⟩
        have hw1 : IntKind.i64.wrap (1099511627776 + (K : Int)) = m1 := by rw [← HM1.out]; exact IntWalk.i64_in _ (by omega)
        have hw2 : IntKind.i64.wrap (-2199023255552 - (K : Int)) = m2 := by rw [← HM2.out]; exact IntWalk.i64_in _ (by omega)
        go_wp2_with fail
        go_loopw [7] (fun v7 wx => ∃ j : Nat, j ≤ sn ∧ v7 = .int .i64 j ∧ Hid (Hold base wx (updR Ra (o, 3, K) ⟨3, 1, sa, sn, sc, List.replicate j (.int .i64 m1) ++ xs.drop j⟩)) ∧ Hid (Below base w wx)) (fun v7 _ => sn - (RowKit.intOf v7).toNat)
        case atStart => exact ⟨0, Nat.zero_le _, rfl, by (show Hold _ _ _; simp only [List.replicate_zero, List.nil_append, List.drop_zero]; rw [updR_self ((raN.out _ (by simp)).trans HS.out)]; exact HH1.out), HBL1⟩
        case round =>
          obtain ⟨j, hj, rfl, HJ, HBJ⟩ := hrel
          clear da ea0
          have rj := (updR_ne (R := Ra) (t := (o, 3, K)) (r := ⟨3, 1, sa, sn, sc, List.replicate j (.int .i64 m1) ++ xs.drop j⟩) (s := (o, 0, 1)) (by simp)).trans rab.out
          have s0 : wr.cell? ⟨ab, 0, none⟩ = some (.slice sa sn sc) := HJ.out.cell rj 0 _ rfl
          have s1 : wr.cell? ⟨ab, 1, none⟩ = some (.slice aa an ac) := HJ.out.cell rj 1 _ rfl
          have hxl := HP3.out.2.2.1
          rw [Nat.mul_one] at hxl
          by_cases hlt : j < sn
          · have hlt' : (j : Int) < sn := by omega
            obtain ⟨g, rfl⟩ := HP3.out.2.2.2.2 (by have := HP3.out.1; omega)
            obtain ⟨x, hx⟩ : ∃ x, xs[j]? = some x := ⟨_, List.getElem?_eq_getElem (by omega)⟩
            have q1 := HJ.out.cell updR_eq j x (by rw [List.getElem?_append_right (by simp)]; simpa using hx)
            have q2 := HJ.out.frozen updR_eq j
            have HJ2 := HJ.out.put updR_eq j (.int .i64 m1)
            rw [updR_two, set_rep (by omega)] at HJ2
            have HJ2 := Lib.hid HJ2
            have HBJ2 := Lib.hid (HBJ.out.trans (HJ.out.putB updR_eq j (.int .i64 m1)))
            clear rj hxl hx
            go_wp2
            go_roundw
            case rel => exact ⟨j + 1, by omega, by go_num, HJ2, HBJ2⟩
            case measure => simp [RowKit.intOf]; omega
          · have hge : (sn : Int) ≤ j := by omega
            obtain rfl : j = sn := by omega
            rw [List.drop_of_length_le (by omega), List.append_nil] at HJ
            obtain ⟨Rb, HRB⟩ : ∃ z, Hid (updR Ra (o, 3, K) ⟨3, 1, sa, j, sc, List.replicate j (.int .i64 m1)⟩ = z) := ⟨_, rfl⟩
            rw [HRB.out] at HJ
            have rb3 : Hid (Rb (o, 3, K) = ⟨3, 1, sa, j, sc, List.replicate j (.int .i64 m1)⟩) := by show _ = _; rw [← HRB.out]; exact updR_eq
            have rbN : Hid (∀ t, t ≠ (o, 3, K) → Rb t = Ra t) := fun t ht => by rw [← HRB.out]; exact updR_ne ht
            clear hxl rj
            have hobb := (rbN.out (o, 0, 0) (by simp)).trans ra0.out
            have rbb : Hid (Rb (o, 0, 1) = ⟨55, 2, some ⟨ab, 0, none⟩, 1, 1, [.slice sa j sc, .slice aa an ac]⟩) := (rbN.out _ (by simp)).trans rab.out
            have rb4 : Hid (Rb (o, 4, K) = ⟨2, 1, aa, an, ac, ys⟩) := ((rbN.out _ (by simp)).trans (raN.out _ (by simp))).trans HA.out
            go_wp2_with fail
            go_loopw [8] (fun v8 wx => ∃ i : Nat, i ≤ an ∧ v8 = .int .i64 i ∧ Hid (Hold base wx (updR Rb (o, 4, K) ⟨2, 1, aa, an, ac, List.replicate i (.int .i64 m2) ++ ys.drop i⟩)) ∧ Hid (Below base w wx)) (fun v8 _ => an - (RowKit.intOf v8).toNat)
            case atStart => exact ⟨0, Nat.zero_le _, rfl, by (show Hold _ _ _; simp only [List.replicate_zero, List.nil_append, List.drop_zero]; rw [updR_self rb4.out]; exact HJ.out), HBJ⟩
            case round =>
              obtain ⟨i, hi, rfl, HI, HBI⟩ := hrel
              clear s0 s1
              have ri := (updR_ne (R := Rb) (t := (o, 4, K)) (r := ⟨2, 1, aa, an, ac, List.replicate i (.int .i64 m2) ++ ys.drop i⟩) (s := (o, 0, 1)) (by simp)).trans rbb.out
              have s0 : wr.cell? ⟨ab, 0, none⟩ = some (.slice sa j sc) := HI.out.cell ri 0 _ rfl
              have s1 : wr.cell? ⟨ab, 1, none⟩ = some (.slice aa an ac) := HI.out.cell ri 1 _ rfl
              have hyl := HP4.out.2.2.1
              rw [Nat.mul_one] at hyl
              by_cases hlt2 : i < an
              · have hlt' : (i : Int) < an := by omega
                obtain ⟨g, rfl⟩ := HP4.out.2.2.2.2 (by have := HP4.out.1; omega)
                obtain ⟨y, hy⟩ : ∃ y, ys[i]? = some y := ⟨_, List.getElem?_eq_getElem (by omega)⟩
                have q1 := HI.out.cell updR_eq i y (by rw [List.getElem?_append_right (by simp)]; simpa using hy)
                have q2 := HI.out.frozen updR_eq i
                have HI2 := HI.out.put updR_eq i (.int .i64 m2)
                rw [updR_two, set_rep (by omega)] at HI2
                have HI2 := Lib.hid HI2
                have HBI2 := Lib.hid (HBI.out.trans (HI.out.putB updR_eq i (.int .i64 m2)))
                clear ri hyl hy
                go_wp2
                go_roundw
                case rel => exact ⟨i + 1, by omega, by go_num, HI2, HBI2⟩
                case measure => simp [RowKit.intOf]; omega
              · have hge2 : (an : Int) ≤ i := by omega
                obtain rfl : i = an := by omega
                rw [List.drop_of_length_le (by omega), List.append_nil] at HI
                obtain ⟨Rc, HRC⟩ : ∃ z, Hid (updR Rb (o, 4, K) ⟨2, 1, aa, i, ac, List.replicate i (.int .i64 m2)⟩ = z) := ⟨_, rfl⟩
                rw [HRC.out] at HI
                have rc4 : Hid (Rc (o, 4, K) = ⟨2, 1, aa, i, ac, List.replicate i (.int .i64 m2)⟩) := by show _ = _; rw [← HRC.out]; exact updR_eq
                have rcN : Hid (∀ t, t ≠ (o, 4, K) → Rc t = Rb t) := fun t ht => by rw [← HRC.out]; exact updR_ne ht
                have rc3 : Hid (Rc (o, 3, K) = ⟨3, 1, sa, j, sc, List.replicate j (.int .i64 m1)⟩) := (rcN.out _ (by simp)).trans rb3.out
                have rcA : Hid (∀ t, t ≠ (o, 0, 0) → t ≠ (o, 3, K) → t ≠ (o, 4, K) → Rc t = R t) := fun t h0 h3 h4 => ((rcN.out _ h4).trans (rbN.out _ h3)).trans (raN.out _ h0)
                have rc0 : Hid (Rc (o, 0, 0) = ⟨62, 3, some ⟨bb, 0, none⟩, 1, 1, [.slice ao1 K c1, .slice ao2 K c2, .int .i64 sz1]⟩) := (rcN.out _ (by simp)).trans hobb
                have rcb : Hid (Rc (o, 0, 1) = ⟨55, 2, some ⟨ab, 0, none⟩, 1, 1, [.slice sa j sc, .slice aa i ac]⟩) := (rcN.out _ (by simp)).trans rbb.out
                have rc1 : Hid (Rc (o, 1, 0) = ⟨25, 1, ao1, K, c1, (List.range K).map fun k => (R (o, 3, k)).v⟩) := (rcA.out _ (by simp) (by simp) (by simp)).trans HL1.out
                have rc2 : Hid (Rc (o, 2, 0) = ⟨50, 1, ao2, K, c2, (List.range K).map fun k => (R (o, 4, k)).v⟩) := (rcA.out _ (by simp) (by simp) (by simp)).trans HL2.out
                clear hyl ri hobb
                go_upto_region 14 with fail
                clear s0 s1
                obtain ⟨i14, hi14, hza14, hzb14, hzc14⟩ := info_parts (P := Try.prog) (e := 25) (z := .slice none 0 0) (size := 1) (bytes := 24) (by kernel_rfl)
                have hmx : K + 1 ≤ maxLen := by unfold maxLen; omega
                have hbyt : (K + 1) * 24 ≤ 140737488355328 := by omega
                have HN : Hid (Hold base (wr.alloc (.cells #[.slice sa j sc] 25)).drew Rc) := (HI.out.via (abal _ _)).via (adrew1 _)
                have hnews : ∀ (q : Nat) (v : Value), [.slice sa j sc][q]? = some v → (wr.alloc (.cells #[.slice sa j sc] 25)).drew.cell? (Addr.add ⟨wr.heap.size, 0, none⟩ q) = some v := by
                  intro q v hv
                  cases q with
                  | zero => simp at hv; subst hv; simp [go_sem]
                  | succ q => simp at hv
                have HNW := Lib.hid hnews
                have k0 := HI.out.cell rc0.out 0 _ rfl
                have k1 := HI.out.frozen rc0.out 0
                have k2 := HI.out.cell rcb.out 0 _ rfl
                have k3 : (wr.alloc (.cells #[.slice sa j sc] 25)).cell? ⟨bb, 0, none⟩ = some (.slice ao1 K c1) := (HI.out.via (abal _ _)).cell rc0.out 0 _ rfl
                clear hnews
                go_cut [] from 75 to 88 (fun wx => ∃ b1 d1, Hid (Hold base wx (updR (updR Rc (o, 1, 0) ⟨25, 1, b1, K + 1, d1, ((List.range K).map fun k => (R (o, 3, k)).v) ++ [.slice sa j sc]⟩) (o, 0, 0) ⟨62, 3, some ⟨bb, 0, none⟩, 1, 1, [.slice b1 (K + 1) d1, .slice ao2 K c2, .int .i64 sz1]⟩)) ∧ Hid (Below base w wx))
                case first =>
                  go_region_law (refine Hold.step_append HN.out rfl _ _ 29 (by rfl) (o, 1, 0) 25 i14 (.slice none 0 0) 1 24 Try.underlying29 hi14 hza14 hzb14 hzc14 rfl (by decide) rc1.out (by rfl) ⟨wr.heap.size, 0, none⟩ 1 1 (by rfl) [.slice sa j sc] rfl HNW.out (by simp [Value.oneCell']) hmx hbyt ?_; intro b9 d9 w9 hH9 hB9; have q1 := hH9.cell ((updR_ne (by simp)).trans rc0.out) 0 _ rfl; have q2 := hH9.frozen ((updR_ne (by simp)).trans rc0.out) 0)
                  all_goals go_wp2_with fail
                  all_goals go_meet
                  all_goals exact ⟨b9, d9, hH9.put ((updR_ne (by simp)).trans rc0.out) 0 _, ((HBI.out.trans (((abal _ _).mono HI.out.base).drew)).trans hB9).trans (hH9.putB ((updR_ne (by simp)).trans rc0.out) 0 _)⟩
                case rest =>
                  obtain ⟨b1, d1, HX14, HY14⟩ := hcut
                  clear k0 k1 k2 k3 hmx hbyt
                  obtain ⟨Rd, HRD⟩ : ∃ z, Hid (updR (updR Rc (o, 1, 0) ⟨25, 1, b1, K + 1, d1, ((List.range K).map fun k => (R (o, 3, k)).v) ++ [Value.slice sa j sc]⟩) (o, 0, 0) ⟨62, 3, some ⟨bb, 0, none⟩, 1, 1, [.slice b1 (K + 1) d1, .slice ao2 K c2, .int .i64 sz1]⟩ = z) := ⟨_, rfl⟩
                  rw [HRD.out] at HX14
                  have rd0 : Hid (Rd (o, 0, 0) = ⟨62, 3, some ⟨bb, 0, none⟩, 1, 1, [.slice b1 (K + 1) d1, .slice ao2 K c2, .int .i64 sz1]⟩) := by show _ = _; rw [← HRD.out]; exact updR_eq
                  have rd1 : Hid (Rd (o, 1, 0) = ⟨25, 1, b1, K + 1, d1, ((List.range K).map fun k => (R (o, 3, k)).v) ++ [Value.slice sa j sc]⟩) := by show _ = _; rw [← HRD.out, updR_ne (by simp)]; exact updR_eq
                  have rdN : Hid (∀ t, t ≠ (o, 0, 0) → t ≠ (o, 1, 0) → Rd t = Rc t) := fun t h0 h1 => by rw [← HRD.out, updR_ne h0, updR_ne h1]
                  have rdb := Lib.hid ((rdN.out (o, 0, 1) (by simp) (by simp)).trans rcb.out)
                  have rd2 := Lib.hid ((rdN.out (o, 2, 0) (by simp) (by simp)).trans rc2.out)
                  go_upto_region 15 with fail
                  obtain ⟨wv, hwv⟩ : ∃ z : World, z = wc := ⟨_, rfl⟩
                  subst hwv
                  obtain ⟨i15, hi15, hza15, hzb15, hzc15⟩ := info_parts (P := Try.prog) (e := 50) (z := .slice none 0 0) (size := 1) (bytes := 24) (by kernel_rfl)
                  have hmx : K + 1 ≤ maxLen := by unfold maxLen; omega
                  have hbyt : (K + 1) * 24 ≤ 140737488355328 := by omega
                  have HN : Hid (Hold base (wv.alloc (.cells #[.slice aa i ac] 50)).drew Rd) := (HX14.out.via (abal _ _)).via (adrew1 _)
                  have hnews : ∀ (q : Nat) (v : Value), [.slice aa i ac][q]? = some v → (wv.alloc (.cells #[.slice aa i ac] 50)).drew.cell? (Addr.add ⟨wv.heap.size, 0, none⟩ q) = some v := by
                    intro q v hv
                    cases q with
                    | zero => simp at hv; subst hv; simp [go_sem]
                    | succ q => simp at hv
                  have HNW := Lib.hid hnews
                  have k0 := HX14.out.cell rd0.out 1 _ rfl
                  have k1 := HX14.out.frozen rd0.out 1
                  have k2 := HX14.out.cell rdb.out 1 _ rfl
                  have k3 : (wv.alloc (.cells #[.slice aa i ac] 50)).cell? ⟨bb, 1, none⟩ = some (.slice ao2 K c2) := (HX14.out.via (abal _ _)).cell rd0.out 1 _ rfl
                  clear hnews
                  go_region_law (refine Hold.step_append HN.out rfl _ _ 60 (by rfl) (o, 2, 0) 50 i15 (.slice none 0 0) 1 24 Try.underlying60 hi15 hza15 hzb15 hzc15 rfl (by decide) rd2.out (by rfl) ⟨wv.heap.size, 0, none⟩ 1 1 (by rfl) [.slice aa i ac] rfl HNW.out (by simp [Value.oneCell']) hmx hbyt ?_; intro b9 d9 w9 hH9 hB9; have q1 := hH9.cell ((updR_ne (by simp)).trans rd0.out) 1 _ rfl; have q2 := hH9.frozen ((updR_ne (by simp)).trans rd0.out) 1)
                  all_goals
                    have HX15 := Lib.hid (hH9.put ((updR_ne (by simp)).trans rd0.out) 1 (.slice b9 (K + 1) d9))
                    have HY15 : Hid (Below base w (w9.setCell ⟨bb, 1, none⟩ (.slice b9 (K + 1) d9))) := ((HY14.out.trans (((abal _ _).mono HX14.out.base).drew)).trans hB9).trans (hH9.putB ((updR_ne (by simp)).trans rd0.out) 1 _)
                    simp only [List.set_cons_succ, List.set_cons_zero] at HX15
                    obtain ⟨Re, HRE⟩ : ∃ z, Hid (updR (updR Rd (o, 2, 0) ⟨50, 1, b9, K + 1, d9, ((List.range K).map fun k => (R (o, 4, k)).v) ++ [Value.slice aa i ac]⟩) (o, 0, 0) ⟨62, 3, some ⟨bb, 0, none⟩, 1, 1, [.slice b1 (K + 1) d1, .slice b9 (K + 1) d9, .int .i64 sz1]⟩ = z) := ⟨_, rfl⟩
                    rw [HRE.out] at HX15
                    have re0 : Re (o, 0, 0) = ⟨62, 3, some ⟨bb, 0, none⟩, 1, 1, [.slice b1 (K + 1) d1, .slice b9 (K + 1) d9, .int .i64 sz1]⟩ := by rw [← HRE.out]; exact updR_eq
                    have re2 : Re (o, 2, 0) = ⟨50, 1, b9, K + 1, d9, ((List.range K).map fun k => (R (o, 4, k)).v) ++ [Value.slice aa i ac]⟩ := by rw [← HRE.out, updR_ne (by simp)]; exact updR_eq
                    have reN : ∀ t, t ≠ (o, 0, 0) → t ≠ (o, 2, 0) → Re t = Rd t := fun t h0 h1 => by rw [← HRE.out, updR_ne h0, updR_ne h1]
                    have reC : ∀ t, t ≠ (o, 0, 0) → t ≠ (o, 1, 0) → t ≠ (o, 2, 0) → Re t = Rc t := fun t h0 h1 h2 => (reN t h0 h2).trans (rdN.out t h0 h1)
                    have reR : ∀ t, t ≠ (o, 0, 0) → t ≠ (o, 1, 0) → t ≠ (o, 2, 0) → t ≠ (o, 3, K) → t ≠ (o, 4, K) → Re t = R t := fun t h0 h1 h2 h3 h4 => (reC t h0 h1 h2).trans (rcA.out t h0 h3 h4)
                    have re3 := (reC (o, 3, K) (by simp) (by simp) (by simp)).trans rc3.out
                    have re4 := (reC (o, 4, K) (by simp) (by simp) (by simp)).trans rc4.out
                    have HT : Hid (MidP base w R o bb K (w9.setCell ⟨bb, 1, none⟩ (.slice b9 (K + 1) d9))) := by
                      rw [← HM1.out] at re3
                      rw [← HM2.out] at re4
                      refine ⟨K + 1, sz1, Re, .inr ⟨rfl, ⟨_, _, _, hbs, re3⟩, ⟨_, _, _, hba, re4⟩⟩, HX15.out, ?_, fun t ht => reR t (fun e => ht (by rw [e])) (fun e => ht (by rw [e])) (fun e => ht (by rw [e])) (fun e => ht (by rw [e])) (fun e => ht (by rw [e])), HY15.out⟩
                      exact HB.out.more HZ.out.1 HZ.out.2.1 HZ.out.2.2 re0 ((reN (o, 1, 0) (by simp) (by simp)).trans rd1.out) re2 re3 re4 (by omega) (by omega) (fun k hk => reR _ (by simp) (by simp) (by simp) (by simp; omega) (by simp)) (fun k hk => reR _ (by simp) (by simp) (by simp) (by simp) (by simp; omega))
                    clear hH9 hB9 re0 re2 reN reC reR re3 re4
                    go_wp2
                    go_roundw
                    case rel => first | exact ⟨1, by go_num, .inr ⟨rfl, HT⟩⟩ | ((repeat apply Exists.intro); exact ⟨⟨1, by go_num, .inr ⟨rfl, HT⟩⟩, rfl⟩)
                    case measure => simp [RowKit.intOf]
    · obtain ⟨K1, sz1, R1, hK1, h1, hb1, hN1, hL1⟩ := HT.out
      obtain ⟨W1, hW1⟩ : ∃ z : World, z = wr := ⟨_, rfl⟩
      subst hW1
      obtain ⟨p1, x1, l1⟩ := hb1.l1
      obtain ⟨p2, x2, l2⟩ := hb1.l2
      have hob := hb1.obj
      rw [l1, l2] at hob
      simp only [Rw.v] at hob
      clear d0 e0 e1 HL1 HL2 HOB HS HA HAB HP3 HP4 HH HB RM
      have d0 : W1.cell? ⟨bb, 0, none⟩ = some (.slice p1 K1 x1) := h1.cell hob 0 _ rfl
      have d1 : W1.cell? ⟨bb, 1, none⟩ = some (.slice p2 K1 x2) := h1.cell hob 1 _ rfl
      have kb1 := hb1.kb
      have H1 := Lib.hid h1
      have B1 := Lib.hid hb1
      have N1 := Lib.hid hN1
      have L1 := Lib.hid hL1
      have HL1 := Lib.hid l1
      have HL2 := Lib.hid l2
      have HOB := Lib.hid hob
      have HK1 := Lib.hid hK1
      clear h1 hb1 hN1 hL1 l1 l2 hob hK1
      go_wp2_with fail
      go_loopw [9, 10, 11, 12, 13] (fun v9 v10 v11 v12 v13 wx => ∃ k : Nat, v9 = .int .i64 k ∧ ((k = K ∧ wx = W1) ∨ (k = K1 ∧ Hid (TakeQ base w R o bb K1 wx)))) (fun v9 _ _ _ _ _ => K1 - (RowKit.intOf v9).toNat)
      case atStart => exact ⟨K, rfl, .inl ⟨rfl, rfl⟩⟩
      case round =>
        obtain ⟨k, rfl, ⟨hkK, hw⟩ | ⟨hkK, HT2⟩⟩ := hrel
        · have hw' := hw.symm
          subst hw'
          have hkK' := hkK.symm
          subst hkK'
          clear hw hkK
          by_cases hKK : K1 = K
          · have hge : (K1 : Int) ≤ K := by omega
            go_wp2
            go_end0
            exact ⟨rfl, K1, sz1, R1, by omega, by omega, H1.out, B1.out, N1.out, L1.out⟩
          · obtain ⟨rfl, ⟨ao3, n3, c3, hn3, hr3⟩, ⟨ao4, n4, c4, hn4, hr4⟩⟩ := HK1.out.resolve_left hKK
            have hlt0 : (K : Int) < (K + 1 : Nat) := by omega
            have P1 := H1.out.cap HL1.out
            have P2 := H1.out.cap HL2.out
            obtain ⟨g1, hg1⟩ := P1.2.2.2.2 (by omega)
            obtain ⟨g2, hg2⟩ := P2.2.2.2.2 (by omega)
            subst hg1 hg2
            have HR3 := Lib.hid hr3
            have HR4 := Lib.hid hr4
            have hx1 : ((List.range (K + 1)).map fun k => (R1 (o, 3, k)).v)[K]? = some (.slice ao3 n3 c3) := by rw [List.getElem?_map, List.getElem?_range (by omega)]; simp only [Option.map_some, HR3.out, Rw.v]
            have hx2 : ((List.range (K + 1)).map fun k => (R1 (o, 4, k)).v)[K]? = some (.slice ao4 n4 c4) := by rw [List.getElem?_map, List.getElem?_range (by omega)]; simp only [Option.map_some, HR4.out, Rw.v]
            have r1 := H1.out.cell HL1.out K _ hx1
            have r2 := H1.out.cell HL2.out K _ hx2
            have F1 := Lib.hid (fun w1 => far_any n3 c3 (by omega) w1)
            have F2 := Lib.hid (fun w1 => far_any n4 c4 (by omega) w1)
            obtain ⟨M1, hM1⟩ : ∃ M : Nat, min (c3 : Int) (n3 + 70000) = M := ⟨min c3 (n3 + 70000), by omega⟩
            obtain ⟨M2, hM2⟩ : ∃ M : Nat, min (c4 : Int) (n4 + 70000) = M := ⟨min c4 (n4 + 70000), by omega⟩
            rw [hM1] at F1
            rw [hM2] at F2
            have P3 := H1.out.cap hr3
            have P4 := H1.out.cap hr4
            have hM1' : n3 ≤ M1 ∧ M1 ≤ c3 ∧ M1 ≤ 17592186200000 := by omega
            have hM2' : n4 ≤ M2 ∧ M2 ≤ c4 ∧ M2 ≤ 17592186200000 := by omega
            obtain ⟨m1, HM1⟩ : ∃ z, Hid (mk1 K = z) := ⟨_, rfl⟩
            obtain ⟨m2, HM2⟩ : ∃ z, Hid (mk2 K = z) := ⟨_, rfl⟩
            rw [HM1.out] at hr3 HR3
            rw [HM2.out] at hr4 HR4
            have hwa : IntKind.i64.wrap (1099511627776 + (K : Int)) = m1 := by rw [← HM1.out]; exact IntWalk.i64_in _ (by omega)
            have hwb : IntKind.i64.wrap (-2199023255552 - (K : Int)) = m2 := by rw [← HM2.out]; exact IntWalk.i64_in _ (by omega)
            have hKi : (K : Int) ≤ (K + 1 : Nat) := by omega
            clear hM1 hM2 P1 P2 P3 P4 hr3 hr4 hKK
            go_wp2_with fail
            go_quiet (fail)
            have H1d := Lib.hid (H1.out.via (adrew W1 nq))
            have L1d : Hid (Below base w (W1.drewN nq)) := L1.out.trans ((adrew W1 nq).mono H1.out.base)
            go_wp2_with fail
            refine (F1.out _).mono ?_; rintro e w2 ⟨rfl, rfl⟩
            go_wp2_with fail
            refine (F2.out _).mono ?_; rintro e w2 ⟨rfl, rfl⟩
            clear r1 r2 d0 d1
            go_wp2_with fail
            go_loopw [10] (fun v wx => ∃ i : Nat, v = .slice ao3 i c3 ∧ n3 ≤ i ∧ i ≤ M1 ∧ Hid (Hold base wx (updR R1 (o, 3, K) ⟨3, 1, ao3, i, c3, List.replicate i (.int .i64 m1)⟩)) ∧ Hid (Below base w wx)) (fun v _ => M1 - lenV v)
            case atStart => exact ⟨n3, rfl, Nat.le_refl _, hM1'.1, by (show Hold _ _ _; rw [updR_self HR3.out]; exact H1d.out), L1d⟩
            case round =>
              obtain ⟨i, rfl, hi1, hi2, HI, HBI⟩ := hrel
              by_cases hlt : i < M1
              · have hlt' : (i : Int) < M1 := by omega
                obtain ⟨g, hg⟩ := (HI.out.cap updR_eq).2.2.2.2 (by omega)
                subst hg
                obtain ⟨i0, hi0, hz0, hz1, hz2⟩ := info_parts (P := Try.prog) (e := 3) (z := .int .i64 0) (size := 1) (bytes := 8) (by kernel_rfl)
                have HN : Hid (Hold base (wr.alloc (.cells #[.int .i64 m1] 3)) (updR R1 (o, 3, K) ⟨3, 1, some ⟨g, 0, none⟩, i, c3, List.replicate i (.int .i64 m1)⟩)) := HI.out.via (abal _ _)
                have hnew : (wr.alloc (.cells #[.int .i64 m1] 3)).cell? ⟨wr.heap.size, 0, none⟩ = some (.int .i64 m1) := by simp [go_sem]
                have HNW := Lib.hid hnew
                have hroom : i + 1 ≤ c3 := by omega
                have HBB : Hid (Below base w (wr.alloc (.cells #[.int .i64 m1] 3))) := HBI.out.trans ((abal _ _).mono HI.out.base)
                clear hnew
                go_wp2_with (at_builtin; refine Hold.wpList_room HN.out rfl _ _ 25 rfl (o, 3, K) 3 i0 Try.underlying25 hi0 hz1 updR_eq hroom rfl ⟨wr.heap.size, 0, none⟩ 1 rfl (.int .i64 m1) HNW.out rfl rfl ?_)
                intro w9 hH9 hB9
                rw [updR_two, ← List.replicate_succ'] at hH9
                have HH9 := Lib.hid hH9
                have HB9 := Lib.hid (HBB.out.trans hB9)
                clear hH9 hB9
                go_wp2
                go_roundw
                case rel => first | exact ⟨i + 1, rfl, by omega, by omega, HH9, HB9⟩ | ((repeat apply Exists.intro); exact ⟨⟨i + 1, rfl, by omega, by omega, HH9, HB9⟩, rfl⟩)
                case measure => simp [lenV]; omega
              · have hge : (M1 : Int) ≤ i := by omega
                obtain rfl : M1 = i := by omega
                have HIj := HI
                have HBIj := HBI
                obtain ⟨Rf, HRF⟩ : ∃ z, Hid (updR R1 (o, 3, K) ⟨3, 1, ao3, M1, c3, List.replicate M1 (.int .i64 m1)⟩ = z) := ⟨_, rfl⟩
                rw [HRF.out] at HI
                have rf3 : Hid (Rf (o, 3, K) = ⟨3, 1, ao3, M1, c3, List.replicate M1 (.int .i64 m1)⟩) := by show _ = _; rw [← HRF.out]; exact updR_eq
                have rfN : Hid (∀ t, t ≠ (o, 3, K) → Rf t = R1 t) := fun t ht => by rw [← HRF.out]; exact updR_ne ht
                have HR4f : Hid (Rf (o, 4, K) = ⟨2, 1, ao4, n4, c4, List.replicate n4 (.int .i64 m2)⟩) := (rfN.out _ (by simp)).trans HR4.out
                clear HIj HBIj
                go_wp2_with fail
                go_loopw [11] (fun v wx => ∃ i : Nat, v = .slice ao4 i c4 ∧ n4 ≤ i ∧ i ≤ M2 ∧ Hid (Hold base wx (updR Rf (o, 4, K) ⟨2, 1, ao4, i, c4, List.replicate i (.int .i64 m2)⟩)) ∧ Hid (Below base w wx)) (fun v _ => M2 - lenV v)
                case atStart => exact ⟨n4, rfl, Nat.le_refl _, hM2'.1, by (show Hold _ _ _; rw [updR_self HR4f.out]; exact HI.out), HBI⟩
                case round =>
                  obtain ⟨i, rfl, hi1, hi2, HI, HBI⟩ := hrel
                  by_cases hlt : i < M2
                  · have hlt' : (i : Int) < M2 := by omega
                    obtain ⟨g, hg⟩ := (HI.out.cap updR_eq).2.2.2.2 (by omega)
                    subst hg
                    obtain ⟨i0, hi0, hz0, hz1, hz2⟩ := info_parts (P := Try.prog) (e := 2) (z := .int .i64 0) (size := 1) (bytes := 8) (by kernel_rfl)
                    have HN : Hid (Hold base (wr.alloc (.cells #[.int .i64 m2] 2)) (updR Rf (o, 4, K) ⟨2, 1, some ⟨g, 0, none⟩, i, c4, List.replicate i (.int .i64 m2)⟩)) := HI.out.via (abal _ _)
                    have hnew : (wr.alloc (.cells #[.int .i64 m2] 2)).cell? ⟨wr.heap.size, 0, none⟩ = some (.int .i64 m2) := by simp [go_sem]
                    have HNW := Lib.hid hnew
                    have hroom : i + 1 ≤ c4 := by omega
                    have HBB : Hid (Below base w (wr.alloc (.cells #[.int .i64 m2] 2))) := HBI.out.trans ((abal _ _).mono HI.out.base)
                    clear hnew
                    go_wp2_with (at_builtin; refine Hold.wpList_room HN.out rfl _ _ 50 rfl (o, 4, K) 2 i0 Try.underlying50 hi0 hz1 updR_eq hroom rfl ⟨wr.heap.size, 0, none⟩ 1 rfl (.int .i64 m2) HNW.out rfl rfl ?_)
                    intro w9 hH9 hB9
                    rw [updR_two, ← List.replicate_succ'] at hH9
                    have HH9 := Lib.hid hH9
                    have HB9 := Lib.hid (HBB.out.trans hB9)
                    clear hH9 hB9
                    go_wp2
                    go_roundw
                    case rel => first | exact ⟨i + 1, rfl, by omega, by omega, HH9, HB9⟩ | ((repeat apply Exists.intro); exact ⟨⟨i + 1, rfl, by omega, by omega, HH9, HB9⟩, rfl⟩)
                    case measure => simp [lenV]; omega
                  · have hge : (M2 : Int) ≤ i := by omega
                    obtain rfl : M2 = i := by omega
                    obtain ⟨Rg, HRG⟩ : ∃ z, Hid (updR Rf (o, 4, K) ⟨2, 1, ao4, M2, c4, List.replicate M2 (.int .i64 m2)⟩ = z) := ⟨_, rfl⟩
                    rw [HRG.out] at HI
                    have rg4 : Hid (Rg (o, 4, K) = ⟨2, 1, ao4, M2, c4, List.replicate M2 (.int .i64 m2)⟩) := by show _ = _; rw [← HRG.out]; exact updR_eq
                    have rgN : Hid (∀ t, t ≠ (o, 4, K) → Rg t = Rf t) := fun t ht => by rw [← HRG.out]; exact updR_ne ht
                    have rgR : Hid (∀ t, t ≠ (o, 3, K) → t ≠ (o, 4, K) → Rg t = R1 t) := fun t h3 h4 => (rgN.out t h4).trans (rfN.out t h3)
                    have rg3 := Lib.hid ((rgN.out (o, 3, K) (by simp)).trans rf3.out)
                    have rg1 := Lib.hid ((rgR.out (o, 1, 0) (by simp) (by simp)).trans HL1.out)
                    have rg2 := Lib.hid ((rgR.out (o, 2, 0) (by simp) (by simp)).trans HL2.out)
                    have rg0 := Lib.hid ((rgR.out (o, 0, 0) (by simp) (by simp)).trans HOB.out)
                    have q0 := HI.out.cell rg0.out 0 _ rfl
                    have q1 := HI.out.cell rg1.out K _ hx1
                    have q2 := HI.out.frozen rg1.out K
                    have HP := HI.out.put rg1.out K (.slice ao3 M1 c3)
                    have HPB := Lib.hid (HBI.out.trans (HI.out.putB rg1.out K (.slice ao3 M1 c3)))
                    obtain ⟨Rh, HRH⟩ : ∃ z, Hid (updR Rg (o, 1, 0) ⟨25, 1, some ⟨g1, 0, none⟩, K + 1, x1, ((List.range (K + 1)).map fun k => (R1 (o, 3, k)).v).set K (.slice ao3 M1 c3)⟩ = z) := ⟨_, rfl⟩
                    rw [HRH.out] at HP
                    have HP := Lib.hid HP
                    have rhN : Hid (∀ t, t ≠ (o, 1, 0) → Rh t = Rg t) := fun t ht => by rw [← HRH.out]; exact updR_ne ht
                    have rh1 : Hid (Rh (o, 1, 0) = ⟨25, 1, some ⟨g1, 0, none⟩, K + 1, x1, ((List.range (K + 1)).map fun k => (R1 (o, 3, k)).v).set K (.slice ao3 M1 c3)⟩) := by show _ = _; rw [← HRH.out]; exact updR_eq
                    have rh2 := Lib.hid ((rhN.out (o, 2, 0) (by simp)).trans rg2.out)
                    have rh0 := Lib.hid ((rhN.out (o, 0, 0) (by simp)).trans rg0.out)
                    have q3 := HP.out.cell rh0.out 1 _ rfl
                    have q4 := HP.out.cell rh2.out K _ hx2
                    have q5 := HP.out.frozen rh2.out K
                    have HQ := HP.out.put rh2.out K (.slice ao4 M2 c4)
                    have HQB := HPB.out.trans (HP.out.putB rh2.out K (.slice ao4 M2 c4))
                    obtain ⟨Ri, HRI⟩ : ∃ z, Hid (updR Rh (o, 2, 0) ⟨50, 1, some ⟨g2, 0, none⟩, K + 1, x2, ((List.range (K + 1)).map fun k => (R1 (o, 4, k)).v).set K (.slice ao4 M2 c4)⟩ = z) := ⟨_, rfl⟩
                    rw [HRI.out] at HQ
                    have riN : ∀ t, t ≠ (o, 2, 0) → Ri t = Rh t := fun t ht => by rw [← HRI.out]; exact updR_ne ht
                    have ri2 : Ri (o, 2, 0) = ⟨50, 1, some ⟨g2, 0, none⟩, K + 1, x2, ((List.range (K + 1)).map fun k => (R1 (o, 4, k)).v).set K (.slice ao4 M2 c4)⟩ := by rw [← HRI.out]; exact updR_eq
                    have riG : ∀ t, t ≠ (o, 1, 0) → t ≠ (o, 2, 0) → Ri t = Rg t := fun t h1 h2 => (riN t h2).trans (rhN.out t h1)
                    have riR : ∀ t, t ≠ (o, 1, 0) → t ≠ (o, 2, 0) → t ≠ (o, 3, K) → t ≠ (o, 4, K) → Ri t = R1 t := fun t h1 h2 h3 h4 => (riG t h1 h2).trans (rgR.out t h3 h4)
                    have HF : Hid (TakeQ base w R o bb (K + 1) ((wr.setCell ⟨g1, K, none⟩ (.slice ao3 M1 c3)).setCell ⟨g2, K, none⟩ (.slice ao4 M2 c4))) := by
                      have e3 := (riG (o, 3, K) (by simp) (by simp)).trans rg3.out
                      have e4 := (riG (o, 4, K) (by simp) (by simp)).trans rg4.out
                      rw [← HM1.out] at e3
                      rw [← HM2.out] at e4
                      refine ⟨sz1, Ri, HQ, ?_, fun t ht => (riR t (fun e => ht (by rw [e])) (fun e => ht (by rw [e])) (fun e => ht (by rw [e])) (fun e => ht (by rw [e]))).trans (N1.out t ht), HQB⟩
                      exact B1.out.grown (k := K) (by omega) HL1.out HL2.out (riR _ (by simp) (by simp) (by simp) (by simp)) ((riN _ (by simp)).trans rh1.out) ri2 e3 e4 (by omega) (by omega) (fun j hj => riR _ (by simp) (by simp) (by simpa using hj) (by simp)) (fun j hj => riR _ (by simp) (by simp) (by simp) (by simpa using hj))
                    clear HQ HQB riN ri2 riG riR
                    go_wp2
                    go_roundw
                    case rel => first | exact ⟨K + 1, by go_num, .inr ⟨rfl, HF⟩⟩ | ((repeat apply Exists.intro); exact ⟨⟨K + 1, by go_num, .inr ⟨rfl, HF⟩⟩, rfl⟩)
                    case measure => simp [RowKit.intOf] <;> omega
        · have hkK' := hkK.symm
          subst hkK'
          obtain ⟨sz9, R9, h9, hb9, hN9, hL9⟩ := HT2.out
          obtain ⟨p9, x9, l9⟩ := hb9.l1
          obtain ⟨p8, x8, l8⟩ := hb9.l2
          have hob9 := hb9.obj
          rw [l9, l8] at hob9
          simp only [Rw.v] at hob9
          have d9 : wr.cell? ⟨bb, 0, none⟩ = some (.slice p9 K1 x9) := h9.cell hob9 0 _ rfl
          have hge : (K1 : Int) ≤ K1 := Int.le_refl _
          have HF : Hid (TakeP base w R o bb K wr) := ⟨K1, sz9, R9, by rcases HK1.out with h | h <;> omega, by rcases HK1.out with h | h <;> omega, h9, hb9, hN9, hL9⟩
          clear h9 hb9 hN9 hL9 l9 l8 hob9
          go_wp2
          go_end0
          exact ⟨rfl, HF.out⟩
end
end Go.Proofs.Ytdedbfbkakofgaa

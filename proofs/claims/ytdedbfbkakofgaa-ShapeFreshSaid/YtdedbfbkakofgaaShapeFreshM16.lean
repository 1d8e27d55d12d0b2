/- The hands of layer 2 (abacuslaw2) in use: one list laid, kept; All's answer held. The hands of layer 2 (abacuslaw2) between calls: one state, and what each call makes of it. -/
import Derived.Test.YtdedbfbkakofgaaShapeFreshM13
import Derived.Test.YtdedbfbkakofgaaShapeFreshM15
import Derived.Test.YtdedbfbkakofgaaShapeFreshM14
namespace Go.Proofs.Ytdedbfbkakofgaa
open Go.RowKit Go.Lib
set_option linter.unusedVariables false
set_option linter.unusedSimpArgs false
attribute [local go_sem] alloc_drewN setCell_drewN
section
variable {base : Nat} {w : World} {R : Nat × Nat × Nat → Rw} {o hb : Nat}
/-- A list laid into a hand of the two. -/
theorem handInts1 {M : Nat} (H : Hold base w R) (b : Hn R o hb M) {la : Option Addr} {ln lc : Nat} {l : List Int} (hl : ∀ wx, Below base w wx → Ls wx la ln lc l) :
    Calls Try.prog 50 #[.pointer (some ⟨hb, 0, none⟩), .slice la ln lc] w (fun e w' => ∃ (g d : Nat) (R' : Nat × Nat × Nat → Rw), e = .returned (.slice (some ⟨g, 0, none⟩) ln d) ∧ Hold base w' R' ∧ Hn R' o hb M ∧
      R' (o, 1, 0) = ⟨3, 1, some ⟨g, 0, none⟩, d, d, (mkd mkS l d).map (Value.int .i64)⟩ ∧ ln ≤ d ∧ (∀ t, t ≠ (o, 0, 0) → t ≠ (o, 1, 0) → R' t = R t) ∧ Below base w w' ∧ Ls w' (some ⟨g, 0, none⟩) ln d l) := by
  obtain ⟨ao, m, S, e1⟩ := b.one
  have hob := b.obj
  have hl0 := hl w (Below.refl _ _)
  have hlen := hl0.len
  refine (ints_any H (tp := (o, 0, 0)) (tr := (o, 1, 0)) (by simp) hob (j := 0) (ao := ao) (m := m) (c := m) (by simp [e1, Rw.v]) e1 hl).mono ?_
  rintro e w' ⟨g, d, R', rfl, hd, hH, h4, h3, hN, hB⟩
  refine ⟨g, d, R', rfl, hH, ?_, h4, by omega, hN, hB, ?_⟩
  · have q3 : R' (o, 3, 0) = R (o, 3, 0) := hN _ (by simp) (by simp)
    have q4 : ∀ k, R' (o, 4, k) = R (o, 4, k) := fun k => hN _ (by simp) (by simp)
    have q5 : R' (o, 5, 0) = R (o, 5, 0) := hN _ (by simp) (by simp)
    obtain ⟨mo, mc, l3⟩ := b.many
    obtain ⟨oo, on, oc, ys, l5⟩ := b.outer
    have q2 : R' (o, 2, 0) = R (o, 2, 0) := hN _ (by simp) (by simp)
    refine ⟨?_, ⟨_, _, _, h4⟩, by rw [q2]; exact b.two, ⟨mo, mc, by rw [q3, l3]; congr 1; exact List.map_congr_left fun k _ => by rw [q4]⟩, fun k hk => by rw [q4]; exact b.els k hk, ⟨oo, on, oc, ys, by rw [q5]; exact l5⟩, b.bnd⟩
    rw [h3, h4, q2, q3, q5]; rfl
  · have h := ls_laid hH h4 (by omega) (by rw [hlen]; exact hl0.big) hl0.rng
    rwa [hlen] at h
/-- It is as it was; all is written over. -/
theorem handKept1 {M : Nat} (H : Hold base w R) (b : Hn R o hb M) {g d : Nat} {la : Option Addr} {ln lc : Nat} {l : List Int} (e1 : R (o, 1, 0) = ⟨3, 1, some ⟨g, 0, none⟩, d, d, (mkd mkS l d).map (Value.int .i64)⟩) (hl : ∀ wx, Below base w wx → Ls wx la ln lc l) :
    Calls Try.prog 51 #[.pointer (some ⟨hb, 0, none⟩), .slice la ln lc] w (fun e w' => e = .returned (.bool true) ∧ ∃ R' : Nat × Nat × Nat → Rw, Hold base w' R' ∧ Hn R' o hb M ∧ (∀ t, t ≠ (o, 1, 0) → R' t = R t) ∧ Below base w w') := by
  have hob := b.obj
  refine (intsKept_any H (tp := (o, 0, 0)) (tr := (o, 1, 0)) (by simp) hob (j := 0) (ao := some ⟨g, 0, none⟩) (d := d) (by simp [e1, Rw.v]) e1 hl (mkd_good _ _ _)).mono ?_
  rintro e w' ⟨rfl, R', S', hH, h4, hN, hB⟩
  refine ⟨rfl, R', hH, ?_, hN, hB⟩
  have q0 : R' (o, 0, 0) = R (o, 0, 0) := hN _ (by simp)
  have q3 : R' (o, 3, 0) = R (o, 3, 0) := hN _ (by simp)
  have q4 : ∀ k, R' (o, 4, k) = R (o, 4, k) := fun k => hN _ (by simp)
  have q5 : R' (o, 5, 0) = R (o, 5, 0) := hN _ (by simp)
  obtain ⟨mo, mc, l3⟩ := b.many
  obtain ⟨oo, on, oc, ys, l5⟩ := b.outer
  have q2 : R' (o, 2, 0) = R (o, 2, 0) := hN _ (by simp)
  refine ⟨?_, ⟨_, _, _, h4⟩, by rw [q2]; exact b.two, ⟨mo, mc, by rw [q3, l3]; congr 1; exact List.map_congr_left fun k _ => by rw [q4]⟩, fun k hk => by rw [q4]; exact b.els k hk, ⟨oo, on, oc, ys, by rw [q5]; exact l5⟩, b.bnd⟩
  rw [q0, hob, h4, q2, q3, q5, e1]; rfl
/-- A list laid into a hand of the two. -/
theorem handInts2 {M : Nat} (H : Hold base w R) (b : Hn R o hb M) {la : Option Addr} {ln lc : Nat} {l : List Int} (hl : ∀ wx, Below base w wx → Ls wx la ln lc l) :
    Calls Try.prog 50 #[.pointer (some ⟨hb, 1, none⟩), .slice la ln lc] w (fun e w' => ∃ (g d : Nat) (R' : Nat × Nat × Nat → Rw), e = .returned (.slice (some ⟨g, 0, none⟩) ln d) ∧ Hold base w' R' ∧ Hn R' o hb M ∧
      R' (o, 2, 0) = ⟨3, 1, some ⟨g, 0, none⟩, d, d, (mkd mkS l d).map (Value.int .i64)⟩ ∧ ln ≤ d ∧ (∀ t, t ≠ (o, 0, 0) → t ≠ (o, 2, 0) → R' t = R t) ∧ Below base w w' ∧ Ls w' (some ⟨g, 0, none⟩) ln d l) := by
  obtain ⟨ao, m, S, e1⟩ := b.two
  have hob := b.obj
  have hl0 := hl w (Below.refl _ _)
  have hlen := hl0.len
  refine (ints_any H (tp := (o, 0, 0)) (tr := (o, 2, 0)) (by simp) hob (j := 1) (ao := ao) (m := m) (c := m) (by simp [e1, Rw.v]) e1 hl).mono ?_
  rintro e w' ⟨g, d, R', rfl, hd, hH, h4, h3, hN, hB⟩
  refine ⟨g, d, R', rfl, hH, ?_, h4, by omega, hN, hB, ?_⟩
  · have q3 : R' (o, 3, 0) = R (o, 3, 0) := hN _ (by simp) (by simp)
    have q4 : ∀ k, R' (o, 4, k) = R (o, 4, k) := fun k => hN _ (by simp) (by simp)
    have q5 : R' (o, 5, 0) = R (o, 5, 0) := hN _ (by simp) (by simp)
    obtain ⟨mo, mc, l3⟩ := b.many
    obtain ⟨oo, on, oc, ys, l5⟩ := b.outer
    have q1 : R' (o, 1, 0) = R (o, 1, 0) := hN _ (by simp) (by simp)
    refine ⟨?_, by rw [q1]; exact b.one, ⟨_, _, _, h4⟩, ⟨mo, mc, by rw [q3, l3]; congr 1; exact List.map_congr_left fun k _ => by rw [q4]⟩, fun k hk => by rw [q4]; exact b.els k hk, ⟨oo, on, oc, ys, by rw [q5]; exact l5⟩, b.bnd⟩
    rw [h3, h4, q1, q3, q5]; rfl
  · have h := ls_laid hH h4 (by omega) (by rw [hlen]; exact hl0.big) hl0.rng
    rwa [hlen] at h
/-- It is as it was; all is written over. -/
theorem handKept2 {M : Nat} (H : Hold base w R) (b : Hn R o hb M) {g d : Nat} {la : Option Addr} {ln lc : Nat} {l : List Int} (e1 : R (o, 2, 0) = ⟨3, 1, some ⟨g, 0, none⟩, d, d, (mkd mkS l d).map (Value.int .i64)⟩) (hl : ∀ wx, Below base w wx → Ls wx la ln lc l) :
    Calls Try.prog 51 #[.pointer (some ⟨hb, 1, none⟩), .slice la ln lc] w (fun e w' => e = .returned (.bool true) ∧ ∃ R' : Nat × Nat × Nat → Rw, Hold base w' R' ∧ Hn R' o hb M ∧ (∀ t, t ≠ (o, 2, 0) → R' t = R t) ∧ Below base w w') := by
  have hob := b.obj
  refine (intsKept_any H (tp := (o, 0, 0)) (tr := (o, 2, 0)) (by simp) hob (j := 1) (ao := some ⟨g, 0, none⟩) (d := d) (by simp [e1, Rw.v]) e1 hl (mkd_good _ _ _)).mono ?_
  rintro e w' ⟨rfl, R', S', hH, h4, hN, hB⟩
  refine ⟨rfl, R', hH, ?_, hN, hB⟩
  have q0 : R' (o, 0, 0) = R (o, 0, 0) := hN _ (by simp)
  have q3 : R' (o, 3, 0) = R (o, 3, 0) := hN _ (by simp)
  have q4 : ∀ k, R' (o, 4, k) = R (o, 4, k) := fun k => hN _ (by simp)
  have q5 : R' (o, 5, 0) = R (o, 5, 0) := hN _ (by simp)
  obtain ⟨mo, mc, l3⟩ := b.many
  obtain ⟨oo, on, oc, ys, l5⟩ := b.outer
  have q1 : R' (o, 1, 0) = R (o, 1, 0) := hN _ (by simp)
  refine ⟨?_, by rw [q1]; exact b.one, ⟨_, _, _, h4⟩, ⟨mo, mc, by rw [q3, l3]; congr 1; exact List.map_congr_left fun k _ => by rw [q4]⟩, fun k hk => by rw [q4]; exact b.els k hk, ⟨oo, on, oc, ys, by rw [q5]; exact l5⟩, b.bnd⟩
  rw [q0, hob, h4, q1, q3, q5, e1]; rfl
/-- A list that a call made is held. -/
theorem Hold.madeS {w' : World} (h : Hold base w R) {ao : Option Addr} {n c : Nat} {zs : List Int} (hO : w'.ownsRow w.heap.size 3 1 (.slice ao n c) n (zs.map (Value.int .i64))) (hb : Below w.heap.size w w') (t : Nat × Nat × Nat) :
    Hold base w' (updR R t ⟨3, 1, ao, n, c, zs.map (Value.int .i64)⟩) := h.new t (own_mono hO h.base) hb (fun g hg => (own_block hO hg).1)
/-- Behind All: what its answer keeps is held. -/
def SeqH (base : Nat) (w : World) (R : Nat × Nat × Nat → Rw) (s : List Int) (e : Ending) (w' : World) : Prop :=
  ∃ (bn bs : Nat) (so : Option Addr) (sn sc : Nat) (R' : Nat × Nat × Nat → Rw), e = .returned (seqV bn bs) ∧ Hold base w' R' ∧ R' (7, 1, 0) = ⟨3, 1, some ⟨bn, 0, none⟩, 1, 1, [.int .i64 (szE s)]⟩ ∧ R' (7, 2, 0) = ⟨25, 1, some ⟨bs, 0, none⟩, 1, 1, [.slice so sn sc]⟩ ∧
    R' (7, 3, 0) = ⟨3, 1, so, sn, sc, s.map (Value.int .i64)⟩ ∧ (∀ t, t ≠ (7, 1, 0) → t ≠ (7, 2, 0) → t ≠ (7, 3, 0) → R' t = R t) ∧ Below base w w'
theorem seqAt_hold {bn bs : Nat} {so : Option Addr} {sn sc : Nat} {s : List Int} (h : Hold base w R) (e1 : R (7, 1, 0) = ⟨3, 1, some ⟨bn, 0, none⟩, 1, 1, [.int .i64 (szE s)]⟩) (e2 : R (7, 2, 0) = ⟨25, 1, some ⟨bs, 0, none⟩, 1, 1, [.slice so sn sc]⟩)
    (e3 : R (7, 3, 0) = ⟨3, 1, so, sn, sc, s.map (Value.int .i64)⟩) (hb : s.length * 8 ≤ 140737488351232) (hr : ∀ i, -9223372036854775808 ≤ s.getD i 0 ∧ s.getD i 0 ≤ 9223372036854775807) : SeqAt w bn bs so sn sc s :=
  ⟨h.cell e1 0 _ rfl, h.cell e2 0 _ rfl, h.ls e3 (by have := (h.cap e3).2.2.1; simp at this; omega) hr, (h.lt e1).2, (h.lt e2).2⟩
set_option maxRecDepth 100000 in
set_option maxHeartbeats 400000 in
theorem all_hold (H : Hold base w R) {ao : Option Addr} {n c : Nat} {s : List Int} (h : Ls w ao n c s) :
    Calls Try.prog 49 #[.slice ao n c] w (SeqH base w R s) := by
  have CZ := Lib.hid (size_any h)
  have hb1 : Below w.heap.size w (w.alloc (.cells #[.int .i64 (szE s)] 3)) := (Below.refl _ _).alloc (Nat.le_refl _) _
  have h1 := H.alloc (7, 1, 0) (cs := #[.int .i64 (szE s)]) (E := 3) (sz := 1) (n := 1) rfl (by decide)
  have CC := Lib.hid (clone_any (h.below hb1 (Nat.le_refl _)))
  have hmf : ∀ (fn : Fn) (first cap : Array Value) (w : World), (Instr.makeFunc fn first cap).run Try.prog w = .ok (.func fn first cap) w := fun _ _ _ _ => rfl
  have H1 := Lib.hid h1
  have HB1 := Lib.hid (hb1.mono H.base)
  clear h hb1 h1 H
  go_enter Try.func49, Try.ntmps49
  go_wp2_with fail
  refine CZ.out.mono ?_; rintro e w1 ⟨rfl, hw⟩
  have hw' := hw.symm
  subst hw'
  go_wp2_with fail
  refine CC.out.mono ?_; rintro e w2 ⟨so, sc, rfl, hL, hO, hB⟩
  have h2 := H1.out.madeS hO hB (7, 3, 0)
  have h3 := h2.alloc (7, 2, 0) (cs := #[.slice so n sc]) (E := 25) (sz := 1) (n := 1) rfl (by decide)
  have HF : Hid (SeqH base w R s (.returned (seqV w.heap.size w2.heap.size)) (w2.alloc (.cells #[.slice so n sc] 25))) := by
    refine ⟨w.heap.size, w2.heap.size, so, n, sc, _, rfl, h3, ?_, updR_eq, ?_, fun t q1 q2 q3 => ?_, HB1.out.trans ((hB.mono H1.out.base).trans ((abal _ _).mono h2.base))⟩
    · rw [updR_ne (by simp), updR_ne (by simp), updR_eq]
    · rw [updR_ne (by simp), updR_eq]
    · rw [updR_ne q2, updR_ne q3, updR_ne q1]
  clear hL hO hB h2 h3
  go_wp2
  go_ret
  exact HF.out
end
end Go.Proofs.Ytdedbfbkakofgaa

namespace Go.Proofs.Ytdedbfbkakofgaa
open Go.RowKit Go.Lib
set_option linter.unusedVariables false
set_option linter.unusedSimpArgs false
attribute [local go_sem] alloc_drewN setCell_drewN
theorem own_mono' {r : Rw} {w : World} {B B' : Nat} (h : r.own w B') (hb : B ≤ B') : r.own w B := by
  obtain ⟨h1, h2 | ⟨g, cap, cur, hv, hg, hh, hc, hm, hs, ht⟩⟩ := h
  · exact ⟨h1, .inl h2⟩
  · exact ⟨h1, .inr ⟨g, cap, cur, hv, Nat.le_trans hb hg, hh, hc, hm, hs, ht⟩⟩
/-- A list laid in a hand: its row. -/
def laidR (l : List Int) (g d : Nat) : Rw := ⟨3, 1, some ⟨g, 0, none⟩, d, d, (mkd mkS l d).map (Value.int .i64)⟩
/-- A list of the program's own: its row. -/
def lsR (ao : Option Addr) (n c : Nat) (l : List Int) : Rw := ⟨3, 1, ao, n, c, l.map (Value.int .i64)⟩
section
variable {base : Nat} {w : World} {Q : Nat × Nat × Nat → Rw} {o hb : Nat} {h1 h2 : Option Rw} {wx w' : World}
/-- The hands at (o, ..), all other rows as Q says; what lies in the two hands, where it is known. -/
def St (base : Nat) (w : World) (o hb : Nat) (Q : Nat × Nat × Nat → Rw) (h1 h2 : Option Rw) (wx : World) : Prop :=
  ∃ (M : Nat) (Rx : Nat × Nat × Nat → Rw), Hold base wx Rx ∧ Hn Rx o hb M ∧ (∀ t, t.1 ≠ o → Rx t = Q t) ∧ (∀ r, h1 = some r → Rx (o, 1, 0) = r) ∧ (∀ r, h2 = some r → Rx (o, 2, 0) = r) ∧ Below base w wx
theorem St.below (h : St base w o hb Q h1 h2 wx) : Below base w wx := by obtain ⟨_, _, _, _, _, _, _, h⟩ := h; exact h
theorem St.sizes (h : St base w o hb Q h1 h2 wx) : base ≤ wx.heap.size := by obtain ⟨_, _, h, _⟩ := h; exact h.base
theorem St.via (h : St base w o hb Q h1 h2 wx) (hb' : Below wx.heap.size wx w') : St base w o hb Q h1 h2 w' := by
  obtain ⟨M, Rx, h, b, q, r1, r2, hw⟩ := h
  exact ⟨M, Rx, h.via hb', b, q, r1, r2, hw.trans (hb'.mono h.base)⟩
theorem St.drewN (h : St base w o hb Q h1 h2 wx) (m : Nat) : St base w o hb Q h1 h2 (wx.drewN m) := h.via (adrew _ _)
theorem St.drew (h : St base w o hb Q h1 h2 wx) : St base w o hb Q h1 h2 wx.drew := h.via (adrew1 _)
theorem St.forget (h : St base w o hb Q h1 h2 wx) : St base w o hb Q none none wx := by
  obtain ⟨M, Rx, h, b, q, r1, r2, hw⟩ := h
  exact ⟨M, Rx, h, b, q, fun r e => absurd e (by simp), fun r e => absurd e (by simp), hw⟩
theorem St.cell (h : St base w o hb Q h1 h2 wx) {t : Nat × Nat × Nat} (ht : t.1 ≠ o) {E : TypeId} {sz g n c : Nat} {xs : List Value} (e : Q t = ⟨E, sz, some ⟨g, 0, none⟩, n, c, xs⟩) (j : Nat) (v : Value) (hj : xs[j]? = some v) : wx.cell? ⟨g, j, none⟩ = some v := by
  obtain ⟨M, Rx, h, b, q, r1, r2, hw⟩ := h
  exact h.cell ((q t ht).trans e) j v hj
theorem St.frozen (h : St base w o hb Q h1 h2 wx) {t : Nat × Nat × Nat} (ht : t.1 ≠ o) {E : TypeId} {sz g n c : Nat} {xs : List Value} (e : Q t = ⟨E, sz, some ⟨g, 0, none⟩, n, c, xs⟩) (j : Nat) : wx.frozen? ⟨g, j, none⟩ = false := by
  obtain ⟨M, Rx, h, b, q, r1, r2, hw⟩ := h
  exact h.frozen ((q t ht).trans e) j
theorem St.put (h : St base w o hb Q h1 h2 wx) {t : Nat × Nat × Nat} (ht : t.1 ≠ o) {E : TypeId} {sz g n c : Nat} {xs : List Value} (e : Q t = ⟨E, sz, some ⟨g, 0, none⟩, n, c, xs⟩) (j : Nat) (u : Value) : St base w o hb (updR Q t ⟨E, sz, some ⟨g, 0, none⟩, n, c, xs.set j u⟩) h1 h2 (wx.setCell ⟨g, j, none⟩ u) := by
  obtain ⟨M, Rx, h, b, q, r1, r2, hw⟩ := h
  have e' := (q t ht).trans e
  refine ⟨M, _, h.put e' j u, b.congr (fun s hs => updR_ne (fun e => ht (by rw [← e]; exact hs))), fun s hs => ?_, fun r hr => ?_, fun r hr => ?_, hw.trans (h.putB e' j u)⟩
  · by_cases e2 : s = t
    · subst e2; rw [updR_eq, updR_eq]
    · rw [updR_ne e2, updR_ne e2]; exact q s hs
  · rw [updR_ne (fun e => ht (by rw [← e]))]; exact r1 r hr
  · rw [updR_ne (fun e => ht (by rw [← e]))]; exact r2 r hr
theorem St.add (h : St base w o hb Q h1 h2 wx) {t : Nat × Nat × Nat} (ht : t.1 ≠ o) {r : Rw} (hr : r.own w' wx.heap.size) (hb' : Below wx.heap.size wx w') : St base w o hb (updR Q t r) h1 h2 w' := by
  obtain ⟨M, Rx, h, b, q, r1, r2, hw⟩ := h
  refine ⟨M, _, h.new t (own_mono' hr h.base) hb' (fun g hg => (Rw.own.lt hr hg).1), b.congr (fun s hs => updR_ne (fun e => ht (by rw [← e]; exact hs))), fun s hs => ?_, fun r' hr' => ?_, fun r' hr' => ?_, hw.trans (hb'.mono h.base)⟩
  · by_cases e2 : s = t
    · subst e2; rw [updR_eq, updR_eq]
    · rw [updR_ne e2, updR_ne e2]; exact q s hs
  · rw [updR_ne (fun e => ht (by rw [← e]))]; exact r1 r' hr'
  · rw [updR_ne (fun e => ht (by rw [← e]))]; exact r2 r' hr'
theorem St.alloc (h : St base w o hb Q h1 h2 wx) {t : Nat × Nat × Nat} (ht : t.1 ≠ o) {cs : Array Value} {E : TypeId} {sz n : Nat} (hs : cs.size = n * sz) (hn : n ≤ maxLen) :
    St base w o hb (updR Q t ⟨E, sz, some ⟨wx.heap.size, 0, none⟩, n, n, cs.toList⟩) h1 h2 (wx.alloc (.cells cs E)) := h.add ht (World.ownsRow_lit wx cs n (Nat.le_refl _) hn hs) (abal _ _)
theorem St.made (h : St base w o hb Q h1 h2 wx) {t : Nat × Nat × Nat} (ht : t.1 ≠ o) {ao : Option Addr} {n c : Nat} {zs : List Int} (hO : w'.ownsRow wx.heap.size 3 1 (.slice ao n c) n (zs.map (Value.int .i64))) (hb' : Below wx.heap.size wx w') :
    St base w o hb (updR Q t (lsR ao n c zs)) h1 h2 w' := h.add ht hO hb'
theorem St.ls (h : St base w o hb Q h1 h2 wx) {t : Nat × Nat × Nat} (ht : t.1 ≠ o) {ao : Option Addr} {n c : Nat} {zs : List Int} (e : Q t = lsR ao n c zs) (hb' : n * 8 ≤ 140737488351232) (hr : ∀ i, -9223372036854775808 ≤ zs.getD i 0 ∧ zs.getD i 0 ≤ 9223372036854775807) : Ls wx ao n c zs := by
  obtain ⟨M, Rx, h, b, q, r1, r2, hw⟩ := h
  exact h.ls ((q t ht).trans e) hb' hr
theorem St.ls1 {l : List Int} {g d : Nat} (h : St base w o hb Q (some (laidR l g d)) (h2) wx) {n c0 : Nat} {la : Option Addr} {w0 : World} (hL : Ls w0 la n c0 l) (hd : n ≤ d) : Ls wx (some ⟨g, 0, none⟩) n d l := by
  obtain ⟨M, Rx, h, b, q, r1, r2, hw⟩ := h
  have hl := hL.len
  have h := ls_laid h (r1 _ rfl) (by omega) (by rw [hl]; exact hL.big) hL.rng
  rwa [hl] at h
theorem St.ints1 (h : St base w o hb Q h1 h2 wx) {la : Option Addr} {n lc : Nat} {l : List Int} (hl : ∀ wy, Below base w wy → Ls wy la n lc l) :
    Calls Try.prog 50 #[.pointer (some ⟨hb, 0, none⟩), .slice la n lc] wx (fun e w' => ∃ g d, e = .returned (.slice (some ⟨g, 0, none⟩) n d) ∧ n ≤ d ∧ St base w o hb Q (some (laidR l g d)) (h2) w') := by
  obtain ⟨M, Rx, h, b, q, r1, r2, hw⟩ := h
  refine (handInts1 h b (fun wy hy => hl wy (hw.trans hy))).mono ?_
  rintro e w' ⟨g, d, R', rfl, hH, hB, hr, hd, hN, hbw, hL⟩
  refine ⟨g, d, rfl, hd, M, R', hH, hB, fun t ht => (hN t (fun e => ht (by rw [e])) (fun e => ht (by rw [e]))).trans (q t ht), fun r e => by simp only [Option.some.injEq] at e; rw [← e]; exact hr, fun r e => (hN _ (by simp) (by simp)).trans (r2 r e), hw.trans hbw⟩
theorem St.kept1 {l : List Int} {g d : Nat} (h : St base w o hb Q (some (laidR l g d)) (h2) wx) {la : Option Addr} {n lc : Nat} (hl : ∀ wy, Below base w wy → Ls wy la n lc l) :
    Calls Try.prog 51 #[.pointer (some ⟨hb, 0, none⟩), .slice la n lc] wx (fun e w' => e = .returned (.bool true) ∧ St base w o hb Q (none) (h2) w') := by
  obtain ⟨M, Rx, h, b, q, r1, r2, hw⟩ := h
  refine (handKept1 h b (r1 _ rfl) (fun wy hy => hl wy (hw.trans hy))).mono ?_
  rintro e w' ⟨rfl, R', hH, hB, hN, hbw⟩
  refine ⟨rfl, M, R', hH, hB, fun t ht => (hN t (fun e => ht (by rw [e]))).trans (q t ht), fun r e => absurd e (by simp), fun r e => (hN _ (by simp)).trans (r2 r e), hw.trans hbw⟩
theorem St.ls2 {l : List Int} {g d : Nat} (h : St base w o hb Q (h1) (some (laidR l g d)) wx) {n c0 : Nat} {la : Option Addr} {w0 : World} (hL : Ls w0 la n c0 l) (hd : n ≤ d) : Ls wx (some ⟨g, 0, none⟩) n d l := by
  obtain ⟨M, Rx, h, b, q, r1, r2, hw⟩ := h
  have hl := hL.len
  have h := ls_laid h (r2 _ rfl) (by omega) (by rw [hl]; exact hL.big) hL.rng
  rwa [hl] at h
theorem St.ints2 (h : St base w o hb Q h1 h2 wx) {la : Option Addr} {n lc : Nat} {l : List Int} (hl : ∀ wy, Below base w wy → Ls wy la n lc l) :
    Calls Try.prog 50 #[.pointer (some ⟨hb, 1, none⟩), .slice la n lc] wx (fun e w' => ∃ g d, e = .returned (.slice (some ⟨g, 0, none⟩) n d) ∧ n ≤ d ∧ St base w o hb Q (h1) (some (laidR l g d)) w') := by
  obtain ⟨M, Rx, h, b, q, r1, r2, hw⟩ := h
  refine (handInts2 h b (fun wy hy => hl wy (hw.trans hy))).mono ?_
  rintro e w' ⟨g, d, R', rfl, hH, hB, hr, hd, hN, hbw, hL⟩
  refine ⟨g, d, rfl, hd, M, R', hH, hB, fun t ht => (hN t (fun e => ht (by rw [e])) (fun e => ht (by rw [e]))).trans (q t ht), fun r e => (hN _ (by simp) (by simp)).trans (r1 r e), fun r e => by simp only [Option.some.injEq] at e; rw [← e]; exact hr, hw.trans hbw⟩
theorem St.kept2 {l : List Int} {g d : Nat} (h : St base w o hb Q (h1) (some (laidR l g d)) wx) {la : Option Addr} {n lc : Nat} (hl : ∀ wy, Below base w wy → Ls wy la n lc l) :
    Calls Try.prog 51 #[.pointer (some ⟨hb, 1, none⟩), .slice la n lc] wx (fun e w' => e = .returned (.bool true) ∧ St base w o hb Q (h1) (none) w') := by
  obtain ⟨M, Rx, h, b, q, r1, r2, hw⟩ := h
  refine (handKept2 h b (r2 _ rfl) (fun wy hy => hl wy (hw.trans hy))).mono ?_
  rintro e w' ⟨rfl, R', hH, hB, hN, hbw⟩
  refine ⟨rfl, M, R', hH, hB, fun t ht => (hN t (fun e => ht (by rw [e]))).trans (q t ht), fun r e => (hN _ (by simp)).trans (r1 r e), fun r e => absurd e (by simp), hw.trans hbw⟩
theorem St.all (h : St base w o hb Q h1 h2 wx) (ho : o ≠ 7) {ao : Option Addr} {n c : Nat} {s : List Int} (hL : Ls wx ao n c s) :
    Calls Try.prog 49 #[.slice ao n c] wx (fun e w' => ∃ (bn bs : Nat) (so : Option Addr) (sn sc : Nat) (Q' : Nat × Nat × Nat → Rw), e = .returned (seqV bn bs) ∧ St base w o hb Q' h1 h2 w' ∧ Q' (7, 1, 0) = ⟨3, 1, some ⟨bn, 0, none⟩, 1, 1, [.int .i64 (szE s)]⟩ ∧
      Q' (7, 2, 0) = ⟨25, 1, some ⟨bs, 0, none⟩, 1, 1, [.slice so sn sc]⟩ ∧ Q' (7, 3, 0) = lsR so sn sc s ∧ (∀ t, t ≠ (7, 1, 0) → t ≠ (7, 2, 0) → t ≠ (7, 3, 0) → Q' t = Q t)) := by
  obtain ⟨M, Rx, h, b, q, r1, r2, hw⟩ := h
  refine (all_hold h hL).mono ?_
  rintro e w' ⟨bn, bs, so, sn, sc, R', rfl, hH, k1, k2, k3, kN, hbw⟩
  have ne : ∀ t : Nat × Nat × Nat, t.1 = o → t ≠ (7, 1, 0) ∧ t ≠ (7, 2, 0) ∧ t ≠ (7, 3, 0) := fun t ht => ⟨fun e => ho (by rw [← ht, e]), fun e => ho (by rw [← ht, e]), fun e => ho (by rw [← ht, e])⟩
  refine ⟨bn, bs, so, sn, sc, updR (updR (updR Q (7, 1, 0) (R' (7, 1, 0))) (7, 2, 0) (R' (7, 2, 0))) (7, 3, 0) (R' (7, 3, 0)), rfl, ⟨M, R', hH, b.congr (fun t ht => kN t (ne t ht).1 (ne t ht).2.1 (ne t ht).2.2), fun t ht => ?_, fun r e => (kN _ (ne _ rfl).1 (ne _ rfl).2.1 (ne _ rfl).2.2).trans (r1 r e), fun r e => (kN _ (ne _ rfl).1 (ne _ rfl).2.1 (ne _ rfl).2.2).trans (r2 r e), hw.trans hbw⟩, ?_, ?_, ?_, fun t q1 q2 q3 => ?_⟩
  · by_cases e3 : t = (7, 3, 0)
    · subst e3; rw [updR_eq]
    · rw [updR_ne e3]
      by_cases e2 : t = (7, 2, 0)
      · subst e2; rw [updR_eq]
      · rw [updR_ne e2]
        by_cases e1 : t = (7, 1, 0)
        · subst e1; rw [updR_eq]
        · rw [updR_ne e1, kN t e1 e2 e3]; exact q t ht
  · rw [updR_ne (by simp), updR_ne (by simp), updR_eq]; exact k1
  · rw [updR_ne (by simp), updR_eq]; exact k2
  · rw [updR_eq]; exact k3
  · rw [updR_ne q3, updR_ne q2, updR_ne q1]
theorem St.seqAt (h : St base w o hb Q h1 h2 wx) (ho : o ≠ 7) {bn bs : Nat} {so : Option Addr} {sn sc : Nat} {s : List Int} (e1 : Q (7, 1, 0) = ⟨3, 1, some ⟨bn, 0, none⟩, 1, 1, [.int .i64 (szE s)]⟩) (e2 : Q (7, 2, 0) = ⟨25, 1, some ⟨bs, 0, none⟩, 1, 1, [.slice so sn sc]⟩)
    (e3 : Q (7, 3, 0) = lsR so sn sc s) (hb' : s.length * 8 ≤ 140737488351232) (hr : ∀ i, -9223372036854775808 ≤ s.getD i 0 ∧ s.getD i 0 ≤ 9223372036854775807) : SeqAt wx bn bs so sn sc s := by
  obtain ⟨M, Rx, h, b, q, r1, r2, hw⟩ := h
  have ne : ∀ k, ((7, k, 0) : Nat × Nat × Nat).1 ≠ o := fun k e => ho e.symm
  exact seqAt_hold h ((q _ (ne 1)).trans e1) ((q _ (ne 2)).trans e2) ((q _ (ne 3)).trans e3) hb' hr
/-- Many lists lie in the hands. -/
def StL (base : Nat) (w : World) (o hb : Nat) (Q : Nat × Nat × Nat → Rw) (n : Nat) (zss : List (List Int)) (og oc : Nat) (wx : World) : Prop :=
  ∃ (w1 : World) (R1 : Nat × Nat × Nat → Rw), ListI base w1 R1 o hb n zss og oc n wx ∧ (∀ t, t.1 ≠ o → R1 t = Q t) ∧ Below base w w1
theorem StL.below {n og oc : Nat} {zss : List (List Int)} (h : StL base w o hb Q n zss og oc wx) : Below base w wx := by
  obtain ⟨w1, R1, ⟨M', l1, l2, gk, dk, ys, R2, k1, b1, hM, r5, hk, y1, y2, hg, r6, r7, e1, e2, eN, hB⟩, q, hw⟩ := h
  exact hw.trans hB
theorem StL.hold {n og oc : Nat} {zss : List (List Int)} (h : StL base w o hb Q n zss og oc wx) : ∃ R', Hold base wx R' ∧ ∀ t, t.1 ≠ o → R' t = Q t := by
  obtain ⟨w1, R1, ⟨M', l1, l2, gk, dk, ys, R2, k1, b1, hM, r5, hk, y1, y2, hg, r6, r7, e1, e2, eN, hB⟩, q, hw⟩ := h
  exact ⟨R2, k1, fun t ht => (eN t ht).trans (q t ht)⟩
theorem StL.lss {n og oc : Nat} {zss : List (List Int)} (h : StL base w o hb Q n zss og oc wx) {w0 : World} {la : Option Addr} {lc : Nat} (hL : Lss w0 la n lc zss) : Lss wx (some ⟨og, 0, none⟩) n oc zss := by
  obtain ⟨w1, R1, h, q, hw⟩ := h
  exact h.lss hL
theorem StL.cell {n og oc : Nat} {zss : List (List Int)} (h : StL base w o hb Q n zss og oc wx) {t : Nat × Nat × Nat} (ht : t.1 ≠ o) {E : TypeId} {sz g k c : Nat} {xs : List Value} (e : Q t = ⟨E, sz, some ⟨g, 0, none⟩, k, c, xs⟩) (j : Nat) (v : Value) (hj : xs[j]? = some v) : wx.cell? ⟨g, j, none⟩ = some v := by
  obtain ⟨R', h1, h2⟩ := h.hold
  exact h1.cell ((h2 t ht).trans e) j v hj
theorem StL.add {n og oc : Nat} {zss : List (List Int)} (h : StL base w o hb Q n zss og oc wx) {t : Nat × Nat × Nat} (ht : t.1 ≠ o) {r : Rw} (hr : r.own w' wx.heap.size) (hb' : Below wx.heap.size wx w') : StL base w o hb (updR Q t r) n zss og oc w' := by
  obtain ⟨w1, R1, ⟨M', l1, l2, gk, dk, ys, R2, k1, b1, hM, r5, hk, y1, y2, hg, r6, r7, e1, e2, eN, hB⟩, q, hw⟩ := h
  have hn : ∀ s : Nat × Nat × Nat, s.1 = o → updR R2 t r s = R2 s := fun s hs => updR_ne (fun e => ht (by rw [← e]; exact hs))
  have hn1 : ∀ s : Nat × Nat × Nat, s.1 = o → updR R1 t r s = R1 s := fun s hs => updR_ne (fun e => ht (by rw [← e]; exact hs))
  refine ⟨w1, updR R1 t r, ⟨M', l1, l2, gk, dk, ys, updR R2 t r, k1.new t (own_mono' hr k1.base) hb' (fun g hg => (Rw.own.lt hr hg).1), b1.congr hn, hM, (hn _ rfl).trans r5, hk, y1, y2, fun k hk' => ⟨(hn _ rfl).trans (hg k hk').1, (hg k hk').2⟩, (hn _ rfl).trans r6, (hn _ rfl).trans r7, ?_, ?_, fun s hs => ?_, hB.trans (hb'.mono k1.base)⟩, fun s hs => ?_, hw⟩
  · rw [hn _ rfl, hn1 _ rfl]; exact e1
  · rw [hn _ rfl, hn1 _ rfl]; exact e2
  · by_cases e : s = t
    · subst e; rw [updR_eq, updR_eq]
    · rw [updR_ne e, updR_ne e]; exact eN s hs
  · by_cases e : s = t
    · subst e; rw [updR_eq, updR_eq]
    · rw [updR_ne e, updR_ne e]; exact q s hs
theorem StL.made {n og oc : Nat} {zss : List (List Int)} (h : StL base w o hb Q n zss og oc wx) {t : Nat × Nat × Nat} (ht : t.1 ≠ o) {ao : Option Addr} {k c : Nat} {zs : List Int} (hO : w'.ownsRow wx.heap.size 3 1 (.slice ao k c) k (zs.map (Value.int .i64))) (hb' : Below wx.heap.size wx w') :
    StL base w o hb (updR Q t (lsR ao k c zs)) n zss og oc w' := h.add ht hO hb'
theorem St.list (h : St base w o hb Q h1 h2 wx) {w0 : World} {la : Option Addr} {n lc : Nat} {zss : List (List Int)} (hL : Lss w0 la n lc zss) (h0 : w0.heap.size ≤ base) (hb0 : Below base w0 w) (hn : n ≤ 900000) :
    Calls Try.prog 58 #[.pointer (some ⟨hb, 0, none⟩), .slice la n lc] wx (fun e w' => ∃ og oc, e = .returned (.slice (some ⟨og, 0, none⟩) n oc) ∧ StL base w o hb Q n zss og oc w') := by
  obtain ⟨M, Rx, h, b, q, r1, r2, hw⟩ := h
  refine (list2_any h b hL h0 (hb0.trans hw) hn).mono ?_
  rintro e w' ⟨og, oc, rfl, hI⟩
  exact ⟨og, oc, rfl, wx, Rx, hI, q, hw⟩
theorem StL.kept {n og oc : Nat} {zss : List (List Int)} (h : StL base w o hb Q n zss og oc wx) {w0 : World} {la : Option Addr} {lc : Nat} (hL : Lss w0 la n lc zss) (h0 : w0.heap.size ≤ base) (hb0 : Below base w0 w) (hn : n ≤ 900000) :
    Calls Try.prog 60 #[.pointer (some ⟨hb, 0, none⟩), .slice la n lc] wx (fun e w' => e = .returned (.bool true) ∧ St base w o hb Q none none w') := by
  obtain ⟨w1, R1, h, q, hw⟩ := h
  refine (listKept2_any h hL h0 (hb0.trans hw) hn).mono ?_
  rintro e w' ⟨rfl, M', R', hH, hB, e1, e2, eN, hbw⟩
  exact ⟨rfl, M', R', hH, hB, fun t ht => (eN t ht).trans (q t ht), fun r e => absurd e (by simp), fun r e => absurd e (by simp), hw.trans hbw⟩
end
end Go.Proofs.Ytdedbfbkakofgaa

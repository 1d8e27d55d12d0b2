/- What the statements on fresh memory share: a new shelf, answers laid beside book and shelf. -/
import Derived.Test.YtdedbfbkakofgaaAtomFreshM13
namespace Go.Proofs.Ytdedbfbkakofgaa
open Go.RowKit Go.Lib
set_option linter.unusedVariables false
set_option linter.unusedSimpArgs false
section
variable {base : Nat} {w w' : World} {R : Nat × Nat × Nat → Rw} {o sb : Nat}
theorem hold_nil (w : World) : Hold w.heap.size w (fun _ => Rw.nil) := ⟨fun _ => Rw.own_nil _ _, fun _ _ _ g hg => absurd hg (Rw.nil_block g), Nat.le_refl _⟩
theorem Sh.congr' {R' : Nat × Nat × Nat → Rw} {K : Nat} {sz : Int} {va wa : Nat → Ar} (h : Sh R o sb K sz va wa) (h0 : R' (o, 0, 0) = R (o, 0, 0)) (h1 : R' (o, 1, 0) = R (o, 1, 0)) (h2 : R' (o, 2, 0) = R (o, 2, 0))
    (hk : ∀ c k, 3 ≤ c → k < K → R' (o, c, k) = R (o, c, k)) : Sh R' o sb K sz va wa := by
  refine ⟨?_, ?_, ?_, ?_, ?_, ?_, ?_, h.ok, h.s0, h.s1, h.kb⟩
  · rw [h0, h1, h2]; exact h.obj
  · rw [h1]; exact h.l1
  · rw [h2]; exact h.l2
  · intro k h3; rw [hk 3 k (by omega) h3]; exact h.e3 k h3
  · intro k h3; rw [hk 4 k (by omega) h3]; exact h.e4 k h3
  · intro k h3; rw [hk 5 k (by omega) h3]; exact h.e5 k h3
  · intro k h3; rw [hk 6 k (by omega) h3]; exact h.e6 k h3
/-- A new shelf. -/
def newS (R : Nat × Nat × Nat → Rw) (o bb : Nat) : Nat × Nat × Nat → Rw :=
  updR (updR (updR R (o, 1, 0) ⟨55, 2, none, 0, 0, []⟩) (o, 2, 0) ⟨55, 2, none, 0, 0, []⟩) (o, 0, 0) ⟨66, 3, some ⟨bb, 0, none⟩, 1, 1, [.slice none 0 0, .slice none 0 0, .int .i64 0]⟩
theorem newS_hold (H : Hold base w R) (o : Nat) : Hold base (w.alloc (.cells #[.slice none 0 0, .slice none 0 0, .int .i64 0] 66)) (newS R o w.heap.size) := by
  have h1 := H.add (o, 1, 0) (r := ⟨55, 2, none, 0, 0, []⟩) (World.ownsRow_nil _ _ _ _) fun s _ g hg => by cases hg
  have h2 := h1.add (o, 2, 0) (r := ⟨55, 2, none, 0, 0, []⟩) (World.ownsRow_nil _ _ _ _) fun s _ g hg => by cases hg
  exact h2.alloc (o, 0, 0) (cs := #[.slice none 0 0, .slice none 0 0, .int .i64 0]) (E := 66) (sz := 3) (n := 1) rfl (by unfold maxLen; omega)
theorem newS_sh (R : Nat × Nat × Nat → Rw) (o bb : Nat) (va wa : Nat → Ar) : Sh (newS R o bb) o bb 0 0 va wa := by
  have e0 : newS R o bb (o, 0, 0) = ⟨66, 3, some ⟨bb, 0, none⟩, 1, 1, [.slice none 0 0, .slice none 0 0, .int .i64 0]⟩ := updR_eq
  have e1 : newS R o bb (o, 1, 0) = ⟨55, 2, none, 0, 0, []⟩ := (updR_ne (by simp)).trans ((updR_ne (by simp)).trans updR_eq)
  have e2 : newS R o bb (o, 2, 0) = ⟨55, 2, none, 0, 0, []⟩ := (updR_ne (by simp)).trans updR_eq
  exact ⟨by rw [e0, e1, e2]; rfl, ⟨none, 0, by rw [e1]; rfl⟩, ⟨none, 0, by rw [e2]; rfl⟩, fun k hk => absurd hk (by omega), fun k hk => absurd hk (by omega), fun k hk => absurd hk (by omega), fun k hk => absurd hk (by omega), fun k hk => absurd hk (by omega), by omega, by omega, by omega⟩
theorem newS_ne (R : Nat × Nat × Nat → Rw) (o bb : Nat) {t : Nat × Nat × Nat} (h : t.1 ≠ o) : newS R o bb t = R t := by
  unfold newS
  rw [updR_ne (fun e => h (by rw [e])), updR_ne (fun e => h (by rw [e])), updR_ne (fun e => h (by rw [e]))]
/-- The box of an array. -/
def boxR (b : Nat) (A : Ar) : Rw := ⟨55, 2, some ⟨b, 0, none⟩, 1, 1, [vS A, vA A]⟩
/-- An array that a call made, and the box in which it is laid. -/
theorem Hold.answer (h : Hold base w R) {B : Ar} (hO : B.Own w' w.heap.size) (hb : Below w.heap.size w w') (t1 t2 t3 : Nat × Nat × Nat) (h12 : t1 ≠ t2) (h13 : t1 ≠ t3) (h23 : t2 ≠ t3) :
    ∃ R', Hold base (w'.alloc (.cells #[.slice B.sa B.sn B.sc, .slice B.aa B.an B.ac] 55)) R' ∧ R' t1 = rowS B ∧ R' t2 = rowA B ∧ R' t3 = boxR w'.heap.size B ∧ (∀ t, t ≠ t1 → t ≠ t2 → t ≠ t3 → R' t = R t) := by
  have h1 := h.made hO hb t1 t2 h12
  have h2 := h1.alloc t3 (cs := #[.slice B.sa B.sn B.sc, .slice B.aa B.an B.ac]) (E := 55) (sz := 2) (n := 1) rfl (by unfold maxLen; omega)
  refine ⟨_, h2, ?_, ?_, updR_eq, fun t a1 a2 a3 => ?_⟩
  · rw [updR_ne h13, updR_ne h12]; exact updR_eq
  · rw [updR_ne h23]; exact updR_eq
  · rw [updR_ne a3, updR_ne a2, updR_ne a1]
/-- A block that is made beside all. -/
theorem Hold.lay (h : Hold base w R) (t : Nat × Nat × Nat) {cs : Array Value} {E : TypeId} {sz n : Nat} (hs : cs.size = n * sz) (hn : n ≤ maxLen) :
    ∃ R', Hold base (w.alloc (.cells cs E)) R' ∧ R' t = ⟨E, sz, some ⟨w.heap.size, 0, none⟩, n, n, cs.toList⟩ ∧ (∀ s, s ≠ t → R' s = R s) := ⟨_, h.alloc t hs hn, updR_eq, fun s hs => updR_ne hs⟩
theorem Hold.boxc (h : Hold base w R) {t : Nat × Nat × Nat} {b : Nat} {A : Ar} (e : R t = boxR b A) : w.cell? ⟨b, 0, none⟩ = some (.slice A.sa A.sn A.sc) ∧ w.cell? ⟨b, 1, none⟩ = some (.slice A.aa A.an A.ac) := ⟨h.cell e 0 _ rfl, h.cell e 1 _ rfl⟩
/-- Book and shelf in a world. -/
def FrI (w : World) (bb sb : Nat) (wx : World) : Prop :=
  ∃ (K : Nat) (sz : Int) (Ks : Nat) (szs : Int) (va wa : Nat → Ar) (R : Nat × Nat × Nat → Rw), Hold w.heap.size wx R ∧ Bk R 1 bb K sz ∧ Sh R 2 sb Ks szs va wa ∧ Below w.heap.size w wx
theorem FrI.via {bb : Nat} {wx wy : World} (h : FrI w bb sb wx) (hb : Below wx.heap.size wx wy) : FrI w bb sb wy := by
  obtain ⟨K, sz, Ks, szs, va, wa, R, h1, h2, h3, h4⟩ := h
  exact ⟨K, sz, Ks, szs, va, wa, R, h1.via hb, h2, h3, h4.trans (hb.mono h1.base)⟩
theorem FrI.new {w1 : World} (h : Below w.heap.size w w1) : FrI w w1.heap.size (w1.heap.size + 1) ((w1.alloc (.cells #[.slice none 0 0, .slice none 0 0, .int .i64 0] 62)).alloc (.cells #[.slice none 0 0, .slice none 0 0, .int .i64 0] 66)) := by
  have h1 := newB_hold ((hold_nil w).via h) 1
  have h2 := newS_hold h1 2
  have hs : (w1.alloc (.cells #[.slice none 0 0, .slice none 0 0, .int .i64 0] 62)).heap.size = w1.heap.size + 1 := by simp
  rw [hs] at h2
  exact ⟨0, 0, 0, 0, fun _ => ⟨none, 0, 0, none, 0, 0, [], []⟩, fun _ => ⟨none, 0, 0, none, 0, 0, [], []⟩, _, h2, (newB_bk _ 1 w1.heap.size).congr (fun t ht => newS_ne _ _ _ (by rw [ht]; omega)), newS_sh _ _ _ _ _, abvia (abvia h (abal _ _)) (abal _ _)⟩
end
end Go.Proofs.Ytdedbfbkakofgaa

/- Parts of memory, each in blocks of its own: made, read, written, appended to, handed on. -/
import Derived.Test.YtfmabpdkjhlihaaMerge
import Derived.RangeFuncOwn
namespace Go.Proofs.Ytfmabpdkjhlihaa
open Go.RowKit Go.Lib
set_option linter.unusedVariables false
set_option linter.unusedSimpArgs false
/-- A part: what holds of a world over a set of blocks. -/
structure Pt where
  P : World → (Nat → Prop) → Prop
  st : ∀ (w w' : World) (F : Nat → Prop), P w F → w.heap.size ≤ w'.heap.size → (∀ k, F k → w'.heap[k]? = w.heap[k]?) → P w' F
  cl : ∀ (w : World) (F : Nat → Prop) (k : Nat), P w F → F k → ∃ o : Obj, w.heap[k]? = some o ∧ o.isCells = true
theorem Pt.lt (A : Pt) (w : World) (F : Nat → Prop) (k : Nat) (h : A.P w F) (hF : F k) : k < w.heap.size := by
  obtain ⟨o, ho, -⟩ := A.cl w F k h hF
  exact (Array.getElem?_eq_some_iff.1 ho).1
theorem own_isCells {r : Rw} {w : World} {base g : Nat} (h : r.own w base) (hg : r.v.ownBlock = some g) : ∃ o : Obj, w.heap[g]? = some o ∧ o.isCells = true := by
  obtain ⟨h1, h2 | ⟨g', cap, cur, hv, hg', hh, h3⟩⟩ := h
  · rw [h2.1] at hg; cases hg
  · rw [hv] at hg
    simp only [Value.ownBlock, Option.some.injEq] at hg
    subst hg
    exact ⟨_, hh, rfl⟩
theorem own_same {r : Rw} {w w' : World} {b : Nat} (h : r.own w b) (hk : ∀ g, r.v.ownBlock = some g → w'.heap[g]? = w.heap[g]?) : r.own w' b := by
  obtain ⟨h1, h2 | ⟨g, cap, cur, hv, hg, hh, h3⟩⟩ := h
  · exact ⟨h1, .inl h2⟩
  · exact ⟨h1, .inr ⟨g, cap, cur, hv, hg, by rw [hk g (by rw [hv]; rfl)]; exact hh, h3⟩⟩
theorem Rw.own.base {r : Rw} {w : World} {b b' : Nat} (h : r.own w b) (hb : ∀ g, r.v.ownBlock = some g → b' ≤ g) : r.own w b' := by
  obtain ⟨h1, h2 | ⟨g, cap, cur, hv, hg, h3⟩⟩ := h
  · exact ⟨h1, .inl h2⟩
  · exact ⟨h1, .inr ⟨g, cap, cur, hv, hb g (by rw [hv]; rfl), h3⟩⟩
def cellsA (As : List Ar) : List Value := As.flatMap fun A => [.slice A.sa A.sn A.sc, .slice A.aa A.an A.ac]
namespace Pt
/-- Nothing. -/
def nil : Pt := ⟨fun w F => ∀ k, ¬ F k, fun w w' F h _ _ => h, fun w F k h hF => absurd hF (h k)⟩
/-- One row. -/
def row (r : Rw) : Pt := ⟨fun w F => r.own w 0 ∧ ∀ k, F k ↔ r.v.ownBlock = some k, fun w w' F h hs hk => ⟨own_same h.1 fun g hg => hk g ((h.2 g).2 hg), h.2⟩, fun w F k h hF => own_isCells h.1 ((h.2 k).1 hF)⟩
/-- With a fact. -/
def pure (p : Prop) (A : Pt) : Pt := ⟨fun w F => p ∧ A.P w F, fun w w' F h hs hk => ⟨h.1, A.st w w' F h.2 hs hk⟩, fun w F k h hF => A.cl w F k h.2 hF⟩
/-- For some. -/
def ex {α : Type} (A : α → Pt) : Pt := ⟨fun w F => ∃ x, (A x).P w F, fun w w' F h hs hk => by obtain ⟨x, hx⟩ := h; exact ⟨x, (A x).st w w' F hx hs hk⟩, fun w F k h hF => by obtain ⟨x, hx⟩ := h; exact (A x).cl w F k hx hF⟩
/-- All of a list, beside one another. -/
def all (L : List Pt) : Pt := ⟨fun w F => ∃ Fs : Nat → Nat → Prop, (∀ (i : Nat) (A : Pt), L[i]? = some A → A.P w (Fs i)) ∧ (∀ i j k, i ≠ j → Fs i k → ¬ Fs j k) ∧ (∀ i k, Fs i k → i < L.length) ∧ ∀ k, F k ↔ ∃ i, Fs i k,
  fun w w' F h hs hk => by
    obtain ⟨Fs, h1, h2, h3, h4⟩ := h
    exact ⟨Fs, fun i A e => A.st w w' (Fs i) (h1 i A e) hs (fun k hF => hk k ((h4 k).2 ⟨i, hF⟩)), h2, h3, h4⟩,
  fun w F k h hF => by
    obtain ⟨Fs, h1, h2, h3, h4⟩ := h
    obtain ⟨i, hi⟩ := (h4 k).1 hF
    have hl := h3 i k hi
    exact L[i].cl w (Fs i) k (h1 i L[i] (List.getElem?_eq_getElem hl)) hi⟩
/-- A row of 64-bit integers. -/
def ints (E : TypeId) (ao : Option Addr) (n c : Nat) (zs : List Int) : Pt := pure (n * 8 ≤ 140737488351232 ∧ ∀ i, -9223372036854775808 ≤ zs.getD i 0 ∧ zs.getD i 0 ≤ 9223372036854775807) (row ⟨E, 1, ao, n, c, zs.map (Value.int .i64)⟩)
/-- An array's two rows. -/
def arr (A : Ar) : Pt := all [ints 3 A.sa A.sn A.sc A.s, ints 2 A.aa A.an A.ac A.a]
/-- A box of some cells. -/
def box (T : TypeId) (b sz : Nat) (vs : List Value) : Pt := row ⟨T, sz, some ⟨b, 0, none⟩, 1, 1, vs⟩
/-- A slice of arrays, with all that they hold. -/
def arrs (ao : Option Addr) (n c : Nat) (As : List Ar) : Pt := all [row ⟨25, 2, ao, n, c, cellsA As⟩, all (As.map arr)]
end Pt
/-- Parts that a call holds: of older memory only blocks of F0 may have changed. -/
structure Sp (F0 : Nat → Prop) (w0 w : World) (L : List Pt) : Prop where
  out : Out F0 w0 w
  pts : ∃ Fs : Nat → Nat → Prop, (∀ (i : Nat) (A : Pt), L[i]? = some A → A.P w (Fs i)) ∧ (∀ i j k, i ≠ j → Fs i k → ¬ Fs j k) ∧ (∀ i k, Fs i k → i < L.length) ∧ ∀ i k, Fs i k → F0 k ∨ w0.heap.size ≤ k
def Non (k : Nat) : Prop := False
section
variable {F0 : Nat → Prop} {w0 w w' : World} {L : List Pt} {i : Nat} {A A' : Pt}
theorem Sp.start (F0 : Nat → Prop) (w : World) : Sp F0 w w [] := ⟨Out.refl _ _, fun _ _ => False, fun i A e => by simp at e, fun _ _ _ _ h => h.elim, fun _ _ h => h.elim, fun _ _ h => h.elim⟩
theorem Sp.one {F : Nat → Prop} (h : A.P w F) : Sp F w w [A] :=
  ⟨Out.refl _ _, fun i k => i = 0 ∧ F k, fun i B e => by
    cases i with
    | zero => simp at e; subst e; simpa using h
    | succ i => simp at e, fun i j k hij h1 h2 => hij (h1.1.trans h2.1.symm), fun i k h => by simp [h.1], fun i k h => .inl h.2⟩
theorem Sp.all (H : Sp F0 w0 w L) : ∃ F, (Pt.all L).P w F ∧ (∀ k, F k → F0 k ∨ w0.heap.size ≤ k) := by
  obtain ⟨Fs, h1, h2, h3, h4⟩ := H.pts
  exact ⟨fun k => ∃ i, Fs i k, ⟨Fs, h1, h2, h3, fun k => Iff.rfl⟩, fun k ⟨i, hi⟩ => h4 i k hi⟩
theorem Sp.of_all (ho : Out F0 w0 w) {F : Nat → Prop} (h : (Pt.all L).P w F) (hF : ∀ k, F k → F0 k ∨ w0.heap.size ≤ k) : Sp F0 w0 w L := by
  obtain ⟨Fs, h1, h2, h3, h4⟩ := h
  exact ⟨ho, Fs, h1, h2, h3, fun i k h => hF k ((h4 k).2 ⟨i, h⟩)⟩
theorem Sp.get (H : Sp F0 w0 w L) (e : L[i]? = some A) : ∃ F, A.P w F ∧ ∀ k, F k → F0 k ∨ w0.heap.size ≤ k := by
  obtain ⟨Fs, h1, h2, h3, h4⟩ := H.pts
  exact ⟨Fs i, h1 i A e, h4 i⟩
theorem Sp.two (H : Sp F0 w0 w L) (e : L[i]? = some A) {j : Nat} {B : Pt} (hij : i ≠ j) (e2 : L[j]? = some B) : ∃ F G, A.P w F ∧ B.P w G ∧ ∀ k, F k → ¬ G k := by
  obtain ⟨Fs, h1, h2, h3, h4⟩ := H.pts
  exact ⟨Fs i, Fs j, h1 i A e, h1 j B e2, fun k => h2 i j k hij⟩
/-- One part taken out, worked on, and put back. -/
theorem Sp.hole (H : Sp F0 w0 w L) (e : L[i]? = some A) : ∃ F, A.P w F ∧ (∀ k, F k → F0 k ∨ w0.heap.size ≤ k) ∧ (∀ (j : Nat) (B : Pt), j ≠ i → L[j]? = some B → ∃ G, B.P w G ∧ ∀ k, G k → ¬ F k) ∧
    ∀ (w' : World) (A' : Pt) (F' : Nat → Prop), A'.P w' F' → (∀ k, F' k → F k ∨ w.heap.size ≤ k) → Out F w w' → Sp F0 w0 w' (L.set i A') := by
  obtain ⟨Fs, h1, h2, h3, h4⟩ := H.pts
  have hil : i < L.length := (List.getElem?_eq_some_iff.1 e).1
  have hlt : ∀ j k, Fs j k → k < w.heap.size := fun j k h => by
    have hl := h3 j k h
    exact L[j].lt w (Fs j) k (h1 j L[j] (List.getElem?_eq_getElem hl)) h
  refine ⟨Fs i, h1 i A e, h4 i, fun j B hj ej => ⟨Fs j, h1 j B ej, fun k h1' => h2 j i k hj h1'⟩, fun w' A' F' hA hF ho => ⟨H.out.trans ho fun k hk hf => ?_, fun j k => (j = i ∧ F' k) ∨ (j ≠ i ∧ Fs j k), fun j B ej => ?_, fun a b k hab q1 q2 => ?_, fun j k q => ?_, fun j k q => ?_⟩⟩
  · rcases h4 i k hf with h | h
    · exact h
    · omega
  · by_cases hj : j = i
    · subst hj
      rw [List.getElem?_set_self hil] at ej
      cases ej
      simpa using hA
    · rw [List.getElem?_set_ne (Ne.symm hj)] at ej
      have hB := B.st w w' (Fs j) (h1 j B ej) ho.size (fun k hk => ho.block k (hlt j k hk) (h2 j i k hj hk))
      simpa [hj] using hB
  · rcases q1 with ⟨rfl, q1⟩ | ⟨n1, q1⟩ <;> rcases q2 with ⟨e2, q2⟩ | ⟨n2, q2⟩
    · exact hab e2.symm
    · rcases hF k q1 with h | h
      · exact h2 _ _ k hab h q2
      · have := hlt b k q2; omega
    · subst e2
      rcases hF k q2 with h | h
      · exact h2 _ _ k hab q1 h
      · have := hlt a k q1; omega
    · exact h2 a b k hab q1 q2
  · rw [List.length_set]
    rcases q with ⟨rfl, q⟩ | ⟨n, q⟩
    · exact hil
    · exact h3 j k q
  · rcases q with ⟨rfl, q⟩ | ⟨n, q⟩
    · rcases hF k q with h | h
      · exact h4 j k h
      · right; have := H.out.size; omega
    · exact h4 j k q
theorem Sp.step (H : Sp F0 w0 w L) (e : L[i]? = some A) (hs : ∀ F, A.P w F → ∃ F', A'.P w' F' ∧ (∀ k, F' k → F k ∨ w.heap.size ≤ k) ∧ Out F w w') : Sp F0 w0 w' (L.set i A') := by
  obtain ⟨F, hF, -, -, h⟩ := H.hole e
  obtain ⟨F', h1, h2, h3⟩ := hs F hF
  exact h w' A' F' h1 h2 h3
theorem Sp.sub (H : Sp F0 w0 w L) (e : L[i]? = some A) (A' : Pt) (hs : ∀ F, A.P w F → A'.P w F) : Sp F0 w0 w (L.set i A') :=
  H.step e fun F hF => ⟨F, hs F hF, fun k h => .inl h, Out.refl _ _⟩
theorem Sp.via (H : Sp F0 w0 w L) (hb : Below w.heap.size w w') : Sp F0 w0 w' L := by
  obtain ⟨Fs, h1, h2, h3, h4⟩ := H.pts
  refine ⟨H.out.via hb, Fs, fun j B ej => ?_, h2, h3, h4⟩
  exact B.st w w' (Fs j) (h1 j B ej) hb.size fun k hk => hb.block k (B.lt w (Fs j) k (h1 j B ej) hk)
/-- What a call made stands behind what was held. -/
theorem Sp.add (H : Sp F0 w0 w L) {M : List Pt} (h : Sp Non w w' M) : Sp F0 w0 w' (L ++ M) := by
  have hb : Below w.heap.size w w' := h.out.toBelow (fun k hk => hk.elim) (Nat.le_refl _)
  obtain ⟨Fs, h1, h2, h3, h4⟩ := (H.via hb).pts
  obtain ⟨F, k1, k2, k3, k4⟩ := H.pts
  obtain ⟨Gs, g1, g2, g3, g4⟩ := h.pts
  have hlt : ∀ j k, F j k → k < w.heap.size := fun j k q => by
    have hl := k3 j k q
    exact L[j].lt w (F j) k (k1 j L[j] (List.getElem?_eq_getElem hl)) q
  have hge : ∀ j k, Gs j k → w.heap.size ≤ k := fun j k q => (g4 j k q).elim (fun h => h.elim) id
  refine ⟨(H.via hb).out, fun j k => (j < L.length ∧ F j k) ∨ (L.length ≤ j ∧ Gs (j - L.length) k), fun j B ej => ?_, fun a b k hab q1 q2 => ?_, fun j k q => ?_, fun j k q => ?_⟩
  · by_cases hj : j < L.length
    · rw [List.getElem?_append_left hj] at ej
      have hB := B.st w w' (F j) (k1 j B ej) hb.size fun k hk => hb.block k (hlt j k hk)
      have e : ¬ L.length ≤ j := by omega
      simpa [hj, e] using hB
    · rw [List.getElem?_append_right (by omega)] at ej
      have hB := g1 _ B ej
      have e : L.length ≤ j := by omega
      simpa [hj, e] using hB
  · rcases q1 with ⟨n1, q1⟩ | ⟨n1, q1⟩ <;> rcases q2 with ⟨n2, q2⟩ | ⟨n2, q2⟩
    · exact k2 a b k hab q1 q2
    · have := hlt a k q1; have := hge _ k q2; omega
    · have := hlt b k q2; have := hge _ k q1; omega
    · exact g2 _ _ k (by omega) q1 q2
  · rw [List.length_append]
    rcases q with ⟨n1, q⟩ | ⟨n1, q⟩
    · omega
    · have := g3 _ k q; omega
  · rcases q with ⟨n1, q⟩ | ⟨n1, q⟩
    · exact k4 j k q
    · right; have := hge _ k q; have := H.out.size; omega
/-- Some parts, in another order; others are let go. -/
theorem Sp.pick (H : Sp F0 w0 w L) (f : List Nat) (hf : f.Nodup) : Sp F0 w0 w (f.map fun i => L.getD i Pt.nil) := by
  obtain ⟨Fs, h1, h2, h3, h4⟩ := H.pts
  refine ⟨H.out, fun j k => j < f.length ∧ Fs (f.getD j 0) k, fun j B ej => ?_, fun a b k hab q1 q2 => ?_, fun j k q => by rw [List.length_map]; exact q.1, fun j k q => h4 _ k q.2⟩
  · rw [List.getElem?_map] at ej
    have hj : j < f.length := by
      rcases Nat.lt_or_ge j f.length with h | h
      · exact h
      · rw [List.getElem?_eq_none h] at ej; simp at ej
    rw [List.getElem?_eq_getElem hj] at ej
    simp only [Option.map_some, Option.some.injEq] at ej
    have ef : f.getD j 0 = f[j] := by simp [List.getD, List.getElem?_eq_getElem hj]
    show B.P w (fun k => j < f.length ∧ Fs (f.getD j 0) k)
    rw [ef]
    have hP : B.P w (Fs f[j]) := by
      rcases Nat.lt_or_ge f[j] L.length with h | h
      · refine h1 _ B ?_
        rw [List.getElem?_eq_getElem h, ← ej]
        simp [List.getD, List.getElem?_eq_getElem h]
      · rw [← ej]
        simp only [List.getD, List.getElem?_eq_none h, Option.getD_none]
        intro k hk
        have := h3 _ k hk
        omega
    simpa [hj] using hP
  · obtain ⟨l1, q1⟩ := q1
    obtain ⟨l2, q2⟩ := q2
    refine h2 _ _ k (fun e => hab ?_) q1 q2
    simp only [List.getD, List.getElem?_eq_getElem l1, List.getElem?_eq_getElem l2, Option.getD_some] at e
    have hp := List.pairwise_iff_getElem.1 hf
    rcases Nat.lt_trichotomy a b with h | h | h
    · exact absurd e (hp a b l1 l2 h)
    · exact h
    · exact absurd e.symm (hp b a l2 l1 h)
theorem Sp.ex {α : Type} {B : α → Pt} (H : Sp F0 w0 w L) (e : L[i]? = some (Pt.ex B)) : ∃ x, Sp F0 w0 w (L.set i (B x)) := by
  obtain ⟨F, ⟨x, hx⟩, -, -, h⟩ := H.hole e
  exact ⟨x, h w (B x) F hx (fun k h => .inl h) (Out.refl _ _)⟩
theorem Sp.pure {p : Prop} (H : Sp F0 w0 w L) (e : L[i]? = some (Pt.pure p A)) : p ∧ Sp F0 w0 w (L.set i A) := by
  obtain ⟨F, ⟨hp, hx⟩, -, -, h⟩ := H.hole e
  exact ⟨hp, h w A F hx (fun k h => .inl h) (Out.refl _ _)⟩
/-- A part of parts is taken apart: they stand behind. -/
theorem Sp.split {M : List Pt} (H : Sp F0 w0 w L) (e : L[i]? = some (Pt.all M)) : Sp F0 w0 w (L.set i Pt.nil ++ M) := by
  obtain ⟨Fs, h1, h2, h3, h4⟩ := H.pts
  obtain ⟨Gs, g1, g2, g3, g4⟩ := h1 i _ e
  have hil : i < L.length := (List.getElem?_eq_some_iff.1 e).1
  have hsub : ∀ j k, Gs j k → Fs i k := fun j k q => (g4 k).2 ⟨j, q⟩
  refine ⟨H.out, fun j k => (j < L.length ∧ j ≠ i ∧ Fs j k) ∨ (L.length ≤ j ∧ Gs (j - L.length) k), fun j B ej => ?_, fun a b k hab q1 q2 => ?_, fun j k q => ?_, fun j k q => ?_⟩
  · by_cases hj : j < L.length
    · rw [List.getElem?_append_left (by rw [List.length_set]; exact hj)] at ej
      have e' : ¬ L.length ≤ j := by omega
      by_cases hji : j = i
      · subst hji
        rw [List.getElem?_set_self hil] at ej
        cases ej
        intro k hk
        simp [e'] at hk
      · rw [List.getElem?_set_ne (Ne.symm hji)] at ej
        have hB := h1 j B ej
        simpa [hj, hji, e'] using hB
    · rw [List.getElem?_append_right (by rw [List.length_set]; omega), List.length_set] at ej
      have hB := g1 _ B ej
      have e' : L.length ≤ j := by omega
      simpa [hj, e'] using hB
  · rcases q1 with ⟨n1, m1, q1⟩ | ⟨n1, q1⟩ <;> rcases q2 with ⟨n2, m2, q2⟩ | ⟨n2, q2⟩
    · exact h2 a b k hab q1 q2
    · exact h2 a i k m1 q1 (hsub _ k q2)
    · exact h2 b i k m2 q2 (hsub _ k q1)
    · exact g2 _ _ k (by omega) q1 q2
  · rw [List.length_append, List.length_set]
    rcases q with ⟨n1, m1, q⟩ | ⟨n1, q⟩
    · omega
    · have := g3 _ k q; omega
  · rcases q with ⟨n1, m1, q⟩ | ⟨n1, q⟩
    · exact h4 j k q
    · exact h4 i k (hsub _ k q)
/-- The first n parts as one. -/
theorem Sp.group (H : Sp F0 w0 w L) (n : Nat) : Sp F0 w0 w (Pt.all (L.take n) :: L.drop n) := by
  obtain ⟨Fs, h1, h2, h3, h4⟩ := H.pts
  refine ⟨H.out, fun j k => (j = 0 ∧ ∃ i, i < n ∧ Fs i k) ∨ (0 < j ∧ Fs (j - 1 + n) k), fun j B ej => ?_, fun a b k hab q1 q2 => ?_, fun j k q => ?_, fun j k q => ?_⟩
  · cases j with
    | zero =>
      simp at ej
      subst ej
      refine ⟨fun i k => i < n ∧ Fs i k, fun i A e => ?_, fun a b k hab q1 q2 => h2 a b k hab q1.2 q2.2, fun i k q => ?_, fun k => ?_⟩
      · have hi : i < n := by
          have := (List.getElem?_eq_some_iff.1 e).1
          rw [List.length_take] at this; omega
        rw [List.getElem?_take_of_lt hi] at e
        simpa [hi] using h1 i A e
      · rw [List.length_take]; have := h3 i k q.2; omega
      · simp
    | succ j =>
      rw [List.getElem?_cons_succ, List.getElem?_drop] at ej
      have hB := h1 _ B ej
      rw [Nat.add_comm] at hB
      simpa using hB
  · rcases q1 with ⟨n1, i1, l1, q1⟩ | ⟨n1, q1⟩ <;> rcases q2 with ⟨n2, i2, l2, q2⟩ | ⟨n2, q2⟩
    · omega
    · exact h2 _ _ k (by omega) q1 q2
    · exact h2 _ _ k (by omega) q1 q2
    · exact h2 _ _ k (by omega) q1 q2
  · rw [List.length_cons, List.length_drop]
    rcases q with ⟨n1, i1, l1, q⟩ | ⟨n1, q⟩
    · omega
    · have := h3 _ k q; omega
  · rcases q with ⟨n1, i1, l1, q⟩ | ⟨n1, q⟩
    · exact h4 _ k q
    · exact h4 _ k q
theorem Sp.below (H : Sp F0 w0 w L) {B : Nat} (hF : ∀ k, F0 k → B ≤ k) (hB : B ≤ w0.heap.size) : Below B w0 w := H.out.toBelow hF hB
theorem Sp.belowN (H : Sp Non w0 w L) : Below w0.heap.size w0 w := H.out.toBelow (fun k h => h.elim) (Nat.le_refl _)
end
end Go.Proofs.Ytfmabpdkjhlihaa

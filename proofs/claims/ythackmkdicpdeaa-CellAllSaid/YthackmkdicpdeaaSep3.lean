/- Parts of memory, each in blocks of its own: made, read, written, appended to, handed on. Rows among the parts of memory: cells, stores, appends, arrays and slices of arrays. Slices of arrays among the parts of memory. -/
import Derived.Test.YthackmkdicpdeaaMerge
import Derived.RangeFuncOwn
namespace Go.Proofs.Ythackmkdicpdeaa
open Go.RowKit Go.Lib
set_option linter.unusedVariables false
set_option linter.unusedSimpArgs false
/-- A part: what holds of a world over a set of blocks. -/
structure Pt where
  P : World → (Nat → Prop) → Prop
  st : ∀ (w w' : World) (F : Nat → Prop), P w F → w.heap.size ≤ w'.heap.size → (∀ k, F k → w'.heap[k]? = w.heap[k]?) → P w' F
  pl : ∀ (w : World) (F : Nat → Prop) (k : Nat), P w F → F k → ∃ (cur : Array Value) (T : TypeId), w.heap[k]? = some (.cells cur T (0, 0))
theorem Pt.cl (A : Pt) (w : World) (F : Nat → Prop) (k : Nat) (h : A.P w F) (hF : F k) : ∃ o : Obj, w.heap[k]? = some o ∧ o.isCells = true := by
  obtain ⟨cur, T, e⟩ := A.pl w F k h hF
  exact ⟨_, e, rfl⟩
theorem Pt.lt (A : Pt) (w : World) (F : Nat → Prop) (k : Nat) (h : A.P w F) (hF : F k) : k < w.heap.size := by
  obtain ⟨o, ho, -⟩ := A.cl w F k h hF
  exact (Array.getElem?_eq_some_iff.1 ho).1
theorem own_plain {r : Rw} {w : World} {base g : Nat} (h : r.own w base) (hg : r.v.ownBlock = some g) : ∃ (cur : Array Value) (T : TypeId), w.heap[g]? = some (.cells cur T (0, 0)) := by
  obtain ⟨h1, h2 | ⟨g', cap, cur, hv, hg', hh, h3⟩⟩ := h
  · rw [h2.1] at hg; cases hg
  · rw [hv] at hg
    simp only [Value.ownBlock, Option.some.injEq] at hg
    subst hg
    exact ⟨_, _, hh⟩
theorem own_isCells {r : Rw} {w : World} {base g : Nat} (h : r.own w base) (hg : r.v.ownBlock = some g) : ∃ o : Obj, w.heap[g]? = some o ∧ o.isCells = true := by
  obtain ⟨cur, T, e⟩ := own_plain h hg
  exact ⟨_, e, rfl⟩
theorem own_same {r : Rw} {w w' : World} {b : Nat} (h : r.own w b) (hk : ∀ g, r.v.ownBlock = some g → w'.heap[g]? = w.heap[g]?) : r.own w' b := by
  obtain ⟨h1, h2 | ⟨g, cap, cur, hv, hg, hh, h3⟩⟩ := h
  · exact ⟨h1, .inl h2⟩
  · exact ⟨h1, .inr ⟨g, cap, cur, hv, hg, by rw [hk g (by rw [hv]; rfl)]; exact hh, h3⟩⟩
theorem Rw.own.base {r : Rw} {w : World} {b b' : Nat} (h : r.own w b) (hb : ∀ g, r.v.ownBlock = some g → b' ≤ g) : r.own w b' := by
  obtain ⟨h1, h2 | ⟨g, cap, cur, hv, hg, h3⟩⟩ := h
  · exact ⟨h1, .inl h2⟩
  · exact ⟨h1, .inr ⟨g, cap, cur, hv, hb g (by rw [hv]; rfl), h3⟩⟩
def cellsA (As : List Ar) : List Value := As.flatMap fun A => [.slice A.sa A.sn A.sc, .slice A.aa A.an A.ac]
namespace Pt
/-- Nothing. -/
def nil : Pt := ⟨fun w F => ∀ k, ¬ F k, fun w w' F h _ _ => h, fun w F k h hF => absurd hF (h k)⟩
/-- One row. -/
def row (r : Rw) : Pt := ⟨fun w F => r.own w 0 ∧ ∀ k, F k ↔ r.v.ownBlock = some k, fun w w' F h hs hk => ⟨own_same h.1 fun g hg => hk g ((h.2 g).2 hg), h.2⟩, fun w F k h hF => own_plain h.1 ((h.2 k).1 hF)⟩
/-- With a fact. -/
def pure (p : Prop) (A : Pt) : Pt := ⟨fun w F => p ∧ A.P w F, fun w w' F h hs hk => ⟨h.1, A.st w w' F h.2 hs hk⟩, fun w F k h hF => A.pl w F k h.2 hF⟩
/-- For some. -/
def ex {α : Type} (A : α → Pt) : Pt := ⟨fun w F => ∃ x, (A x).P w F, fun w w' F h hs hk => by obtain ⟨x, hx⟩ := h; exact ⟨x, (A x).st w w' F hx hs hk⟩, fun w F k h hF => by obtain ⟨x, hx⟩ := h; exact (A x).pl w F k hx hF⟩
/-- All of a list, beside one another. -/
def all (L : List Pt) : Pt := ⟨fun w F => ∃ Fs : Nat → Nat → Prop, (∀ (i : Nat) (A : Pt), L[i]? = some A → A.P w (Fs i)) ∧ (∀ i j k, i ≠ j → Fs i k → ¬ Fs j k) ∧ (∀ i k, Fs i k → i < L.length) ∧ ∀ k, F k ↔ ∃ i, Fs i k,
  fun w w' F h hs hk => by
    obtain ⟨Fs, h1, h2, h3, h4⟩ := h
    exact ⟨Fs, fun i A e => A.st w w' (Fs i) (h1 i A e) hs (fun k hF => hk k ((h4 k).2 ⟨i, hF⟩)), h2, h3, h4⟩,
  fun w F k h hF => by
    obtain ⟨Fs, h1, h2, h3, h4⟩ := h
    obtain ⟨i, hi⟩ := (h4 k).1 hF
    have hl := h3 i k hi
    exact L[i].pl w (Fs i) k (h1 i L[i] (List.getElem?_eq_getElem hl)) hi⟩
/-- A row of 64-bit integers. -/
def ints (E : TypeId) (ao : Option Addr) (n c : Nat) (zs : List Int) : Pt := pure (n * 8 ≤ 140737488351232 ∧ ∀ i, -9223372036854775808 ≤ zs.getD i 0 ∧ zs.getD i 0 ≤ 9223372036854775807) (row ⟨E, 1, ao, n, c, zs.map (Value.int .i64)⟩)
/-- An array's two rows. -/
def arr (A : Ar) : Pt := all [ints 3 A.sa A.sn A.sc A.s, ints 2 A.aa A.an A.ac A.a]
/-- A box of some cells. -/
def box (T : TypeId) (b sz : Nat) (vs : List Value) : Pt := row ⟨T, sz, some ⟨b, 0, none⟩, 1, 1, vs⟩
/-- A slice of arrays, with all that they hold. -/
def arrs (ao : Option Addr) (n c : Nat) (As : List Ar) : Pt := all [row ⟨45, 2, ao, n, c, cellsA As⟩, all (As.map arr)]
end Pt
/-- Parts that a call holds: of older memory only blocks of F0 may have changed. -/
structure Sp (F0 : Nat → Prop) (w0 w : World) (L : List Pt) : Prop where
  out : Out F0 w0 w
  pts : ∃ Fs : Nat → Nat → Prop, (∀ (i : Nat) (A : Pt), L[i]? = some A → A.P w (Fs i)) ∧ (∀ i j k, i ≠ j → Fs i k → ¬ Fs j k) ∧ (∀ i k, Fs i k → i < L.length) ∧ ∀ i k, Fs i k → F0 k ∨ w0.heap.size ≤ k
def Non (k : Nat) : Prop := False
section
variable {F0 : Nat → Prop} {w0 w w' : World} {L : List Pt} {i : Nat} {A A' : Pt}
theorem Sp.start (F0 : Nat → Prop) (w : World) : Sp F0 w w [] := ⟨Out.refl _ _, fun _ _ => False, fun i A e => by simp at e, fun _ _ _ _ h => h.elim, fun _ _ h => h.elim, fun _ _ h => h.elim⟩
theorem Sp.one {F : Nat → Prop} (h : A.P w F) : Sp F w w [A] :=
  ⟨Out.refl _ _, fun i k => i = 0 ∧ F k, fun i B e => by
    cases i with
    | zero => simp at e; subst e; simpa using h
    | succ i => simp at e, fun i j k hij h1 h2 => hij (h1.1.trans h2.1.symm), fun i k h => by simp [h.1], fun i k h => .inl h.2⟩
theorem Sp.all (H : Sp F0 w0 w L) : ∃ F, (Pt.all L).P w F ∧ (∀ k, F k → F0 k ∨ w0.heap.size ≤ k) := by
  obtain ⟨Fs, h1, h2, h3, h4⟩ := H.pts
  exact ⟨fun k => ∃ i, Fs i k, ⟨Fs, h1, h2, h3, fun k => Iff.rfl⟩, fun k ⟨i, hi⟩ => h4 i k hi⟩
theorem Sp.of_all (ho : Out F0 w0 w) {F : Nat → Prop} (h : (Pt.all L).P w F) (hF : ∀ k, F k → F0 k ∨ w0.heap.size ≤ k) : Sp F0 w0 w L := by
  obtain ⟨Fs, h1, h2, h3, h4⟩ := h
  exact ⟨ho, Fs, h1, h2, h3, fun i k h => hF k ((h4 k).2 ⟨i, h⟩)⟩
theorem Sp.get (H : Sp F0 w0 w L) (e : L[i]? = some A) : ∃ F, A.P w F ∧ ∀ k, F k → F0 k ∨ w0.heap.size ≤ k := by
  obtain ⟨Fs, h1, h2, h3, h4⟩ := H.pts
  exact ⟨Fs i, h1 i A e, h4 i⟩
theorem Sp.two (H : Sp F0 w0 w L) (e : L[i]? = some A) {j : Nat} {B : Pt} (hij : i ≠ j) (e2 : L[j]? = some B) : ∃ F G, A.P w F ∧ B.P w G ∧ ∀ k, F k → ¬ G k := by
  obtain ⟨Fs, h1, h2, h3, h4⟩ := H.pts
  exact ⟨Fs i, Fs j, h1 i A e, h1 j B e2, fun k => h2 i j k hij⟩
/-- One part taken out, worked on, and put back. -/
theorem Sp.hole (H : Sp F0 w0 w L) (e : L[i]? = some A) : ∃ F, A.P w F ∧ (∀ k, F k → F0 k ∨ w0.heap.size ≤ k) ∧ (∀ (j : Nat) (B : Pt), j ≠ i → L[j]? = some B → ∃ G, B.P w G ∧ ∀ k, G k → ¬ F k) ∧
    ∀ (w' : World) (A' : Pt) (F' : Nat → Prop), A'.P w' F' → (∀ k, F' k → F k ∨ w.heap.size ≤ k) → Out F w w' → Sp F0 w0 w' (L.set i A') := by
  obtain ⟨Fs, h1, h2, h3, h4⟩ := H.pts
  have hil : i < L.length := (List.getElem?_eq_some_iff.1 e).1
  have hlt : ∀ j k, Fs j k → k < w.heap.size := fun j k h => by
    have hl := h3 j k h
    exact L[j].lt w (Fs j) k (h1 j L[j] (List.getElem?_eq_getElem hl)) h
  refine ⟨Fs i, h1 i A e, h4 i, fun j B hj ej => ⟨Fs j, h1 j B ej, fun k h1' => h2 j i k hj h1'⟩, fun w' A' F' hA hF ho => ⟨H.out.trans ho fun k hk hf => ?_, fun j k => (j = i ∧ F' k) ∨ (j ≠ i ∧ Fs j k), fun j B ej => ?_, fun a b k hab q1 q2 => ?_, fun j k q => ?_, fun j k q => ?_⟩⟩
  · rcases h4 i k hf with h | h
    · exact h
    · omega
  · by_cases hj : j = i
    · subst hj
      rw [List.getElem?_set_self hil] at ej
      cases ej
      simpa using hA
    · rw [List.getElem?_set_ne (Ne.symm hj)] at ej
      have hB := B.st w w' (Fs j) (h1 j B ej) ho.size (fun k hk => ho.block k (hlt j k hk) (h2 j i k hj hk))
      simpa [hj] using hB
  · rcases q1 with ⟨rfl, q1⟩ | ⟨n1, q1⟩ <;> rcases q2 with ⟨e2, q2⟩ | ⟨n2, q2⟩
    · exact hab e2.symm
    · rcases hF k q1 with h | h
      · exact h2 _ _ k hab h q2
      · have := hlt b k q2; omega
    · subst e2
      rcases hF k q2 with h | h
      · exact h2 _ _ k hab q1 h
      · have := hlt a k q1; omega
    · exact h2 a b k hab q1 q2
  · rw [List.length_set]
    rcases q with ⟨rfl, q⟩ | ⟨n, q⟩
    · exact hil
    · exact h3 j k q
  · rcases q with ⟨rfl, q⟩ | ⟨n, q⟩
    · rcases hF k q with h | h
      · exact h4 j k h
      · right; have := H.out.size; omega
    · exact h4 j k q
theorem Sp.step (H : Sp F0 w0 w L) (e : L[i]? = some A) (hs : ∀ F, A.P w F → ∃ F', A'.P w' F' ∧ (∀ k, F' k → F k ∨ w.heap.size ≤ k) ∧ Out F w w') : Sp F0 w0 w' (L.set i A') := by
  obtain ⟨F, hF, -, -, h⟩ := H.hole e
  obtain ⟨F', h1, h2, h3⟩ := hs F hF
  exact h w' A' F' h1 h2 h3
theorem Sp.sub (H : Sp F0 w0 w L) (e : L[i]? = some A) (A' : Pt) (hs : ∀ F, A.P w F → A'.P w F) : Sp F0 w0 w (L.set i A') :=
  H.step e fun F hF => ⟨F, hs F hF, fun k h => .inl h, Out.refl _ _⟩
theorem Sp.via (H : Sp F0 w0 w L) (hb : Below w.heap.size w w') : Sp F0 w0 w' L := by
  obtain ⟨Fs, h1, h2, h3, h4⟩ := H.pts
  refine ⟨H.out.via hb, Fs, fun j B ej => ?_, h2, h3, h4⟩
  exact B.st w w' (Fs j) (h1 j B ej) hb.size fun k hk => hb.block k (B.lt w (Fs j) k (h1 j B ej) hk)
/-- What a call made stands behind what was held. -/
theorem Sp.add (H : Sp F0 w0 w L) {M : List Pt} (h : Sp Non w w' M) : Sp F0 w0 w' (L ++ M) := by
  have hb : Below w.heap.size w w' := h.out.toBelow (fun k hk => hk.elim) (Nat.le_refl _)
  obtain ⟨Fs, h1, h2, h3, h4⟩ := (H.via hb).pts
  obtain ⟨F, k1, k2, k3, k4⟩ := H.pts
  obtain ⟨Gs, g1, g2, g3, g4⟩ := h.pts
  have hlt : ∀ j k, F j k → k < w.heap.size := fun j k q => by
    have hl := k3 j k q
    exact L[j].lt w (F j) k (k1 j L[j] (List.getElem?_eq_getElem hl)) q
  have hge : ∀ j k, Gs j k → w.heap.size ≤ k := fun j k q => (g4 j k q).elim (fun h => h.elim) id
  refine ⟨(H.via hb).out, fun j k => (j < L.length ∧ F j k) ∨ (L.length ≤ j ∧ Gs (j - L.length) k), fun j B ej => ?_, fun a b k hab q1 q2 => ?_, fun j k q => ?_, fun j k q => ?_⟩
  · by_cases hj : j < L.length
    · rw [List.getElem?_append_left hj] at ej
      have hB := B.st w w' (F j) (k1 j B ej) hb.size fun k hk => hb.block k (hlt j k hk)
      have e : ¬ L.length ≤ j := by omega
      simpa [hj, e] using hB
    · rw [List.getElem?_append_right (by omega)] at ej
      have hB := g1 _ B ej
      have e : L.length ≤ j := by omega
      simpa [hj, e] using hB
  · rcases q1 with ⟨n1, q1⟩ | ⟨n1, q1⟩ <;> rcases q2 with ⟨n2, q2⟩ | ⟨n2, q2⟩
    · exact k2 a b k hab q1 q2
    · have := hlt a k q1; have := hge _ k q2; omega
    · have := hlt b k q2; have := hge _ k q1; omega
    · exact g2 _ _ k (by omega) q1 q2
  · rw [List.length_append]
    rcases q with ⟨n1, q⟩ | ⟨n1, q⟩
    · omega
    · have := g3 _ k q; omega
  · rcases q with ⟨n1, q⟩ | ⟨n1, q⟩
    · exact k4 j k q
    · right; have := hge _ k q; have := H.out.size; omega
/-- Some parts, in another order; others are let go. -/
theorem Sp.pick (H : Sp F0 w0 w L) (f : List Nat) (hf : f.Nodup) : Sp F0 w0 w (f.map fun i => L.getD i Pt.nil) := by
  obtain ⟨Fs, h1, h2, h3, h4⟩ := H.pts
  refine ⟨H.out, fun j k => j < f.length ∧ Fs (f.getD j 0) k, fun j B ej => ?_, fun a b k hab q1 q2 => ?_, fun j k q => by rw [List.length_map]; exact q.1, fun j k q => h4 _ k q.2⟩
  · rw [List.getElem?_map] at ej
    have hj : j < f.length := by
      rcases Nat.lt_or_ge j f.length with h | h
      · exact h
      · rw [List.getElem?_eq_none h] at ej; simp at ej
    rw [List.getElem?_eq_getElem hj] at ej
    simp only [Option.map_some, Option.some.injEq] at ej
    have ef : f.getD j 0 = f[j] := by simp [List.getD, List.getElem?_eq_getElem hj]
    show B.P w (fun k => j < f.length ∧ Fs (f.getD j 0) k)
    rw [ef]
    have hP : B.P w (Fs f[j]) := by
      rcases Nat.lt_or_ge f[j] L.length with h | h
      · refine h1 _ B ?_
        rw [List.getElem?_eq_getElem h, ← ej]
        simp [List.getD, List.getElem?_eq_getElem h]
      · rw [← ej]
        simp only [List.getD, List.getElem?_eq_none h, Option.getD_none]
        intro k hk
        have := h3 _ k hk
        omega
    simpa [hj] using hP
  · obtain ⟨l1, q1⟩ := q1
    obtain ⟨l2, q2⟩ := q2
    refine h2 _ _ k (fun e => hab ?_) q1 q2
    simp only [List.getD, List.getElem?_eq_getElem l1, List.getElem?_eq_getElem l2, Option.getD_some] at e
    have hp := List.pairwise_iff_getElem.1 hf
    rcases Nat.lt_trichotomy a b with h | h | h
    · exact absurd e (hp a b l1 l2 h)
    · exact h
    · exact absurd e.symm (hp b a l2 l1 h)
theorem Sp.ex {α : Type} {B : α → Pt} (H : Sp F0 w0 w L) (e : L[i]? = some (Pt.ex B)) : ∃ x, Sp F0 w0 w (L.set i (B x)) := by
  obtain ⟨F, ⟨x, hx⟩, -, -, h⟩ := H.hole e
  exact ⟨x, h w (B x) F hx (fun k h => .inl h) (Out.refl _ _)⟩
theorem Sp.pure {p : Prop} (H : Sp F0 w0 w L) (e : L[i]? = some (Pt.pure p A)) : p ∧ Sp F0 w0 w (L.set i A) := by
  obtain ⟨F, ⟨hp, hx⟩, -, -, h⟩ := H.hole e
  exact ⟨hp, h w A F hx (fun k h => .inl h) (Out.refl _ _)⟩
/-- A part of parts is taken apart: they stand behind. -/
theorem Sp.split {M : List Pt} (H : Sp F0 w0 w L) (e : L[i]? = some (Pt.all M)) : Sp F0 w0 w (L.set i Pt.nil ++ M) := by
  obtain ⟨Fs, h1, h2, h3, h4⟩ := H.pts
  obtain ⟨Gs, g1, g2, g3, g4⟩ := h1 i _ e
  have hil : i < L.length := (List.getElem?_eq_some_iff.1 e).1
  have hsub : ∀ j k, Gs j k → Fs i k := fun j k q => (g4 k).2 ⟨j, q⟩
  refine ⟨H.out, fun j k => (j < L.length ∧ j ≠ i ∧ Fs j k) ∨ (L.length ≤ j ∧ Gs (j - L.length) k), fun j B ej => ?_, fun a b k hab q1 q2 => ?_, fun j k q => ?_, fun j k q => ?_⟩
  · by_cases hj : j < L.length
    · rw [List.getElem?_append_left (by rw [List.length_set]; exact hj)] at ej
      have e' : ¬ L.length ≤ j := by omega
      by_cases hji : j = i
      · subst hji
        rw [List.getElem?_set_self hil] at ej
        cases ej
        intro k hk
        simp [e'] at hk
      · rw [List.getElem?_set_ne (Ne.symm hji)] at ej
        have hB := h1 j B ej
        simpa [hj, hji, e'] using hB
    · rw [List.getElem?_append_right (by rw [List.length_set]; omega), List.length_set] at ej
      have hB := g1 _ B ej
      have e' : L.length ≤ j := by omega
      simpa [hj, e'] using hB
  · rcases q1 with ⟨n1, m1, q1⟩ | ⟨n1, q1⟩ <;> rcases q2 with ⟨n2, m2, q2⟩ | ⟨n2, q2⟩
    · exact h2 a b k hab q1 q2
    · exact h2 a i k m1 q1 (hsub _ k q2)
    · exact h2 b i k m2 q2 (hsub _ k q1)
    · exact g2 _ _ k (by omega) q1 q2
  · rw [List.length_append, List.length_set]
    rcases q with ⟨n1, m1, q⟩ | ⟨n1, q⟩
    · omega
    · have := g3 _ k q; omega
  · rcases q with ⟨n1, m1, q⟩ | ⟨n1, q⟩
    · exact h4 j k q
    · exact h4 i k (hsub _ k q)
/-- The first n parts as one. -/
theorem Sp.group (H : Sp F0 w0 w L) (n : Nat) : Sp F0 w0 w (Pt.all (L.take n) :: L.drop n) := by
  obtain ⟨Fs, h1, h2, h3, h4⟩ := H.pts
  refine ⟨H.out, fun j k => (j = 0 ∧ ∃ i, i < n ∧ Fs i k) ∨ (0 < j ∧ Fs (j - 1 + n) k), fun j B ej => ?_, fun a b k hab q1 q2 => ?_, fun j k q => ?_, fun j k q => ?_⟩
  · cases j with
    | zero =>
      simp at ej
      subst ej
      refine ⟨fun i k => i < n ∧ Fs i k, fun i A e => ?_, fun a b k hab q1 q2 => h2 a b k hab q1.2 q2.2, fun i k q => ?_, fun k => ?_⟩
      · have hi : i < n := by
          have := (List.getElem?_eq_some_iff.1 e).1
          rw [List.length_take] at this; omega
        rw [List.getElem?_take_of_lt hi] at e
        simpa [hi] using h1 i A e
      · rw [List.length_take]; have := h3 i k q.2; omega
      · simp
    | succ j =>
      rw [List.getElem?_cons_succ, List.getElem?_drop] at ej
      have hB := h1 _ B ej
      rw [Nat.add_comm] at hB
      simpa using hB
  · rcases q1 with ⟨n1, i1, l1, q1⟩ | ⟨n1, q1⟩ <;> rcases q2 with ⟨n2, i2, l2, q2⟩ | ⟨n2, q2⟩
    · omega
    · exact h2 _ _ k (by omega) q1 q2
    · exact h2 _ _ k (by omega) q1 q2
    · exact h2 _ _ k (by omega) q1 q2
  · rw [List.length_cons, List.length_drop]
    rcases q with ⟨n1, i1, l1, q⟩ | ⟨n1, q⟩
    · omega
    · have := h3 _ k q; omega
  · rcases q with ⟨n1, i1, l1, q⟩ | ⟨n1, q⟩
    · exact h4 _ k q
    · exact h4 _ k q
theorem Sp.below (H : Sp F0 w0 w L) {B : Nat} (hF : ∀ k, F0 k → B ≤ k) (hB : B ≤ w0.heap.size) : Below B w0 w := H.out.toBelow hF hB
theorem Sp.belowN (H : Sp Non w0 w L) : Below w0.heap.size w0 w := H.out.toBelow (fun k h => h.elim) (Nat.le_refl _)
end
end Go.Proofs.Ythackmkdicpdeaa
namespace Go.Proofs.Ythackmkdicpdeaa
open Go.RowKit Go.Lib
set_option linter.unusedVariables false
set_option linter.unusedSimpArgs false
section
variable {F0 : Nat → Prop} {w0 w w' : World} {L : List Pt} {i : Nat} {A A' : Pt}
section
variable {E : TypeId} {sz g n c : Nat} {xs : List Value}
theorem Sp.rown (H : Sp F0 w0 w L) {r : Rw} (e : L[i]? = some (Pt.row r)) : r.own w 0 ∧ ∀ k, r.v.ownBlock = some k → F0 k ∨ w0.heap.size ≤ k := by
  obtain ⟨F, h, hF⟩ := H.get e
  exact ⟨h.1, fun k hk => hF k ((h.2 k).2 hk)⟩
theorem Sp.cell (H : Sp F0 w0 w L) (e : L[i]? = some (Pt.row ⟨E, sz, some ⟨g, 0, none⟩, n, c, xs⟩)) (j : Nat) (v : Value) (hj : xs[j]? = some v) : w.cell? ⟨g, j, none⟩ = some v := by
  have ho := (H.rown e).1
  have hlt : j < n * sz := by
    have h1 := ho.1
    simp only at h1
    rw [← h1]
    exact (List.getElem?_eq_some_iff.1 hj).1
  exact (World.ownsRow.cellAt ho j hlt).trans hj
theorem Sp.frozen (H : Sp F0 w0 w L) (e : L[i]? = some (Pt.row ⟨E, sz, some ⟨g, 0, none⟩, n, c, xs⟩)) (j : Nat) : w.frozen? ⟨g, j, none⟩ = false := World.ownsRow.frozenAt (H.rown e).1 j
theorem Sp.rlt (H : Sp F0 w0 w L) (e : L[i]? = some (Pt.row ⟨E, sz, some ⟨g, 0, none⟩, n, c, xs⟩)) : g < w.heap.size ∧ (F0 g ∨ w0.heap.size ≤ g) := by
  obtain ⟨h, hF⟩ := H.rown e
  exact ⟨(h.lt rfl).2, hF g rfl⟩
theorem Sp.rcap (H : Sp F0 w0 w L) {ao : Option Addr} (e : L[i]? = some (Pt.row ⟨E, sz, ao, n, c, xs⟩)) : n ≤ c ∧ c ≤ maxLen ∧ xs.length = n * sz ∧ (ao = none → c = 0) ∧ (0 < c → ∃ g, ao = some ⟨g, 0, none⟩) := by
  obtain ⟨ho, -⟩ := H.rown e
  rcases ho with ⟨h1, h2 | ⟨g, cap, cur, hv, hg, hh, hc, hm, hs, ht⟩⟩
  · simp only [Rw.v] at h2
    obtain ⟨h2, h3⟩ := h2
    cases h2
    exact ⟨Nat.le_refl _, Nat.zero_le _, h1, fun _ => rfl, fun h => absurd h (by simp)⟩
  · simp only [Rw.v] at hv hc hm
    cases hv
    exact ⟨hc, hm, h1, fun h => (by cases h), fun _ => ⟨g, rfl⟩⟩
theorem Sp.put (H : Sp F0 w0 w L) (e : L[i]? = some (Pt.row ⟨E, sz, some ⟨g, 0, none⟩, n, c, xs⟩)) (j : Nat) (u : Value) : Sp F0 w0 (w.setCell ⟨g, j, none⟩ u) (L.set i (Pt.row ⟨E, sz, some ⟨g, 0, none⟩, n, c, xs.set j u⟩)) := by
  refine H.step e fun F hF => ?_
  obtain ⟨h1, h2⟩ := World.ownsRow.stored hF.1 j u
  exact ⟨F, ⟨h1, hF.2⟩, fun k h => .inl h, (Out.refl F w).setCell (.inl ((hF.2 g).2 rfl)) u⟩
/-- A new row behind the others. -/
theorem Sp.rowNew (H : Sp F0 w0 w L) {r : Rw} (hO : r.own w' w.heap.size) (hb : Below w.heap.size w w') : Sp F0 w0 w' (L ++ [Pt.row r]) := by
  refine H.add ⟨Out.of hb, fun i k => i = 0 ∧ r.v.ownBlock = some k, fun i B e => ?_, fun i j k hij h1 h2 => hij (h1.1.trans h2.1.symm), fun i k h => by simp [h.1], fun i k h => .inr (hO.lt h.2).1⟩
  cases i with
  | zero => simp at e; subst e; exact ⟨hO.base fun _ _ => Nat.zero_le _, fun k => by simp⟩
  | succ i => simp at e
theorem Sp.alloc (H : Sp F0 w0 w L) (T : TypeId) (sz m : Nat) (cs : Array Value) (hs : cs.size = m * sz) (hm : m ≤ maxLen) : Sp F0 w0 (w.alloc (.cells cs T)) (L ++ [Pt.row ⟨T, sz, some ⟨w.heap.size, 0, none⟩, m, m, cs.toList⟩]) :=
  H.rowNew (World.ownsRow_lit w cs m (Nat.le_refl _) hm hs) (abal _ _)
theorem Sp.rowNil (H : Sp F0 w0 w L) (E : TypeId) (sz : Nat) : Sp F0 w0 w (L ++ [Pt.row ⟨E, sz, none, 0, 0, []⟩]) := H.rowNew (World.ownsRow_nil _ _ _ _) (Below.refl _ _)
end
section
variable {E : TypeId} {ao : Option Addr} {n c : Nat} {zs : List Int}
theorem Sp.intsNew (H : Sp F0 w0 w L) (hO : w'.ownsRow w.heap.size E 1 (.slice ao n c) n (zs.map (Value.int .i64))) (hb : Below w.heap.size w w') (h1 : n * 8 ≤ 140737488351232) (h2 : ∀ i, -9223372036854775808 ≤ zs.getD i 0 ∧ zs.getD i 0 ≤ 9223372036854775807) : Sp F0 w0 w' (L ++ [Pt.ints E ao n c zs]) := by
  have h := (H.rowNew (r := ⟨E, 1, ao, n, c, zs.map (Value.int .i64)⟩) hO hb).sub (i := L.length) (A' := Pt.ints E ao n c zs) (by simp) (fun F hF => ⟨⟨h1, h2⟩, hF⟩)
  simpa using h
theorem Sp.iown (H : Sp F0 w0 w L) (e : L[i]? = some (Pt.ints E ao n c zs)) : w.ownsRow 0 E 1 (.slice ao n c) n (zs.map (Value.int .i64)) := by
  obtain ⟨F, h, hF⟩ := H.get e
  exact h.2.1
theorem Sp.ipure (H : Sp F0 w0 w L) (e : L[i]? = some (Pt.ints E ao n c zs)) : n * 8 ≤ 140737488351232 ∧ ∀ i, -9223372036854775808 ≤ zs.getD i 0 ∧ zs.getD i 0 ≤ 9223372036854775807 := by
  obtain ⟨F, h, hF⟩ := H.get e
  exact h.1
theorem Pt.ints_ls {F : Nat → Prop} (h : (Pt.ints E ao n c zs).P w F) : Ls w ao n c zs := ls_of_own h.2.1 h.1.1 h.1.2
theorem Sp.ls (H : Sp F0 w0 w L) (e : L[i]? = some (Pt.ints E ao n c zs)) : Ls w ao n c zs := by
  obtain ⟨F, h, hF⟩ := H.get e
  exact Pt.ints_ls h
theorem Sp.toRow (H : Sp F0 w0 w L) (e : L[i]? = some (Pt.ints E ao n c zs)) : Sp F0 w0 w (L.set i (Pt.row ⟨E, 1, ao, n, c, zs.map (Value.int .i64)⟩)) := H.sub e _ fun F hF => hF.2
theorem Sp.toInts (H : Sp F0 w0 w L) (e : L[i]? = some (Pt.row ⟨E, 1, ao, n, c, zs.map (Value.int .i64)⟩)) (h1 : n * 8 ≤ 140737488351232) (h2 : ∀ i, -9223372036854775808 ≤ zs.getD i 0 ∧ zs.getD i 0 ≤ 9223372036854775807) : Sp F0 w0 w (L.set i (Pt.ints E ao n c zs)) := H.sub e _ fun F hF => ⟨⟨h1, h2⟩, hF⟩
end
theorem Pt.arr_own {B : Ar} {F : Nat → Prop} (h : (Pt.arr B).P w F) : B.Is w ∧ B.Own w 0 ∧ ∀ k, F k ↔ (Value.slice B.sa B.sn B.sc).ownBlock = some k ∨ (Value.slice B.aa B.an B.ac).ownBlock = some k := by
  obtain ⟨Fs, h1, h2, h3, h4⟩ := h
  have a := h1 0 _ rfl
  have b := h1 1 _ rfl
  refine ⟨⟨Pt.ints_ls a, Pt.ints_ls b⟩, ⟨a.2.1, b.2.1, fun g q1 q2 => h2 0 1 g (by omega) ((a.2.2 g).2 q1) ((b.2.2 g).2 q2)⟩, fun k => ?_⟩
  rw [h4 k]
  constructor
  · rintro ⟨i, hi⟩
    have := h3 i k hi
    simp only [List.length_cons, List.length_nil] at this
    rcases (show i = 0 ∨ i = 1 by omega) with rfl | rfl
    · exact .inl ((a.2.2 k).1 hi)
    · exact .inr ((b.2.2 k).1 hi)
  · rintro (h | h)
    · exact ⟨0, (a.2.2 k).2 h⟩
    · exact ⟨1, (b.2.2 k).2 h⟩
theorem Pt.arr_mk {B : Ar} (hI : B.Is w) (hO : B.Own w 0) : (Pt.arr B).P w (fun k => (Value.slice B.sa B.sn B.sc).ownBlock = some k ∨ (Value.slice B.aa B.an B.ac).ownBlock = some k) := by
  refine ⟨fun i k => (i = 0 ∧ (Value.slice B.sa B.sn B.sc).ownBlock = some k) ∨ (i = 1 ∧ (Value.slice B.aa B.an B.ac).ownBlock = some k), fun i A e => ?_, fun i j k hij q1 q2 => ?_, fun i k h => ?_, fun k => ?_⟩
  · match i with
    | 0 => simp at e; subst e; exact ⟨⟨hI.shp.big, hI.shp.rng⟩, hO.shp, fun k => by simp [Rw.v]⟩
    | 1 => simp at e; subst e; exact ⟨⟨hI.ats.big, hI.ats.rng⟩, hO.ats, fun k => by simp [Rw.v]⟩
    | i + 2 => simp at e
  · rcases q1 with ⟨rfl, q1⟩ | ⟨rfl, q1⟩ <;> rcases q2 with ⟨rfl, q2⟩ | ⟨rfl, q2⟩
    · exact hij rfl
    · exact hO.two k q1 q2
    · exact hO.two k q2 q1
    · exact hij rfl
  · rcases h with ⟨rfl, -⟩ | ⟨rfl, -⟩ <;> simp
  · constructor
    · rintro (h | h)
      · exact ⟨0, .inl ⟨rfl, h⟩⟩
      · exact ⟨1, .inr ⟨rfl, h⟩⟩
    · rintro ⟨i, ⟨-, h⟩ | ⟨-, h⟩⟩
      · exact .inl h
      · exact .inr h
theorem Ar.Own.base {B : Ar} {b b' : Nat} (h : B.Own w b) (h1 : ∀ k, (Value.slice B.sa B.sn B.sc).ownBlock = some k ∨ (Value.slice B.aa B.an B.ac).ownBlock = some k → b' ≤ k) : B.Own w b' :=
  ⟨Rw.own.base (r := rowS B) h.shp fun g hg => h1 g (.inl hg), Rw.own.base (r := rowA B) h.ats fun g hg => h1 g (.inr hg), h.two⟩
theorem Sp.arrNew (H : Sp F0 w0 w L) {B : Ar} (hI : B.Is w') (hO : B.Own w' w.heap.size) (hb : Below w.heap.size w w') : Sp F0 w0 w' (L ++ [Pt.arr B]) := by
  refine H.add ⟨Out.of hb, fun i k => i = 0 ∧ ((Value.slice B.sa B.sn B.sc).ownBlock = some k ∨ (Value.slice B.aa B.an B.ac).ownBlock = some k), fun i A e => ?_, fun i j k hij h1 h2 => hij (h1.1.trans h2.1.symm), fun i k h => by simp [h.1], fun i k h => .inr ?_⟩
  · cases i with
    | zero => simp at e; subst e; simpa using Pt.arr_mk hI (hO.base fun _ _ => Nat.zero_le _)
    | succ i => simp at e
  · rcases h.2 with h | h
    · exact (own_block hO.shp h).1
    · exact (own_block hO.ats h).1
theorem Sp.isA (H : Sp F0 w0 w L) {B : Ar} (e : L[i]? = some (Pt.arr B)) : B.Is w := by
  obtain ⟨F, h, hF⟩ := H.get e
  exact (Pt.arr_own h).1
theorem Sp.ownA (H : Sp Non w0 w L) {B : Ar} (e : L[i]? = some (Pt.arr B)) : B.Own w w0.heap.size := by
  obtain ⟨F, h, hF⟩ := H.get e
  obtain ⟨h1, h2, h3⟩ := Pt.arr_own h
  exact h2.base fun k hk => (hF k ((h3 k).2 hk)).elim (fun h => h.elim) id
/-- Two rows become an array. -/
theorem Sp.arrOf (H : Sp F0 w0 w L) {sa aa : Option Addr} {sn sc an ac : Nat} {s a : List Int} {j : Nat} (e : L[i]? = some (Pt.ints 3 sa sn sc s)) (hij : i ≠ j) (e2 : L[j]? = some (Pt.ints 2 aa an ac a)) :
    Sp F0 w0 w ((L.set i Pt.nil).set j (Pt.arr ⟨sa, sn, sc, aa, an, ac, s, a⟩)) := by
  obtain ⟨Fs, h1, h2, h3, h4⟩ := H.pts
  have a1 := h1 i _ e
  have a2 := h1 j _ e2
  have hi := (List.getElem?_eq_some_iff.1 e).1
  have hj := (List.getElem?_eq_some_iff.1 e2).1
  have hP := Pt.arr_mk (B := ⟨sa, sn, sc, aa, an, ac, s, a⟩) ⟨Pt.ints_ls a1, Pt.ints_ls a2⟩ ⟨a1.2.1, a2.2.1, fun g q1 q2 => h2 i j g hij ((a1.2.2 g).2 q1) ((a2.2.2 g).2 q2)⟩
  refine ⟨H.out, fun q k => (q = j ∧ (Fs i k ∨ Fs j k)) ∨ (q ≠ j ∧ q ≠ i ∧ Fs q k), fun q B eq => ?_, fun x y k hxy q1 q2 => ?_, fun q k h => ?_, fun q k h => ?_⟩
  · by_cases hq : q = j
    · subst hq
      rw [List.getElem?_set_self (by rw [List.length_set]; exact hj)] at eq
      cases eq
      refine cast (congrArg _ (funext fun k => ?_)) hP
      simp only [true_and, ne_eq, not_true_eq_false, false_and, or_false]
      rw [propext (a1.2.2 k), propext (a2.2.2 k)]
      rfl
    · rw [List.getElem?_set_ne (Ne.symm hq)] at eq
      by_cases hqi : q = i
      · subst hqi
        rw [List.getElem?_set_self hi] at eq
        cases eq
        intro k hk
        simp [hq] at hk
      · rw [List.getElem?_set_ne (Ne.symm hqi)] at eq
        simpa [hq, hqi] using h1 q B eq
  · rcases q1 with ⟨rfl, q1⟩ | ⟨n1, m1, q1⟩ <;> rcases q2 with ⟨rfl, q2⟩ | ⟨n2, m2, q2⟩
    · exact hxy rfl
    · rcases q1 with q1 | q1
      · exact h2 _ _ k (Ne.symm m2) q1 q2
      · exact h2 _ _ k (Ne.symm n2) q1 q2
    · rcases q2 with q2 | q2
      · exact h2 _ _ k (Ne.symm m1) q2 q1
      · exact h2 _ _ k (Ne.symm n1) q2 q1
    · exact h2 _ _ k hxy q1 q2
  · rw [List.length_set, List.length_set]
    rcases h with ⟨rfl, -⟩ | ⟨-, -, h⟩
    · exact hj
    · exact h3 q k h
  · rcases h with ⟨rfl, h | h⟩ | ⟨-, -, h⟩
    · exact h4 _ k h
    · exact h4 _ k h
    · exact h4 _ k h
theorem Sp.madeE (H : Sp Non w0 w L) {B : Ar} (e : L[i]? = some (Pt.arr B)) (err : Int) : MadeE w0 B.s B.a err (.returned (.tuple #[B.v, .int .i64 err])) w :=
  ⟨B, rfl, H.isA e, rfl, rfl, H.ownA e, H.belowN⟩
/-- One part more in a part of parts. -/
theorem Sp.snoc (H : Sp F0 w0 w L) {M : List Pt} {j : Nat} {B : Pt} (e : L[i]? = some (Pt.all M)) (hij : i ≠ j) (e2 : L[j]? = some B) : Sp F0 w0 w ((L.set j Pt.nil).set i (Pt.all (M ++ [B]))) := by
  obtain ⟨Fs, h1, h2, h3, h4⟩ := H.pts
  obtain ⟨Gs, g1, g2, g3, g4⟩ := h1 i _ e
  have a2 := h1 j _ e2
  have hi := (List.getElem?_eq_some_iff.1 e).1
  have hj := (List.getElem?_eq_some_iff.1 e2).1
  have hsub : ∀ q k, Gs q k → Fs i k := fun q k h => (g4 k).2 ⟨q, h⟩
  refine ⟨H.out, fun q k => (q = i ∧ (Fs i k ∨ Fs j k)) ∨ (q ≠ i ∧ q ≠ j ∧ Fs q k), fun q C eq => ?_, fun x y k hxy q1 q2 => ?_, fun q k h => ?_, fun q k h => ?_⟩
  · by_cases hq : q = i
    · subst hq
      rw [List.getElem?_set_self (by rw [List.length_set]; exact hi)] at eq
      cases eq
      refine ⟨fun p k => (p < M.length ∧ Gs p k) ∨ (p = M.length ∧ Fs j k), fun p D ep => ?_, fun x y k hxy q1 q2 => ?_, fun p k h => ?_, fun k => ?_⟩
      · by_cases hp : p < M.length
        · rw [List.getElem?_append_left hp] at ep
          have : ¬ p = M.length := by omega
          simpa [hp, this] using g1 p D ep
        · have hp' : p = M.length := by
            have := (List.getElem?_eq_some_iff.1 ep).1
            simp at this
            omega
          subst hp'
          simp at ep
          subst ep
          simpa using a2
      · rcases q1 with ⟨n1, q1⟩ | ⟨n1, q1⟩ <;> rcases q2 with ⟨n2, q2⟩ | ⟨n2, q2⟩
        · exact g2 x y k hxy q1 q2
        · exact h2 _ _ k hij (hsub _ k q1) q2
        · exact h2 _ _ k hij (hsub _ k q2) q1
        · omega
      · rw [List.length_append, List.length_singleton]
        rcases h with ⟨h, -⟩ | ⟨h, -⟩ <;> omega
      · simp only [true_and, ne_eq, not_true_eq_false, false_and, or_false]
        constructor
        · rintro (h | h)
          · obtain ⟨p, hp⟩ := (g4 k).1 h
            exact ⟨p, .inl ⟨g3 p k hp, hp⟩⟩
          · exact ⟨_, .inr ⟨rfl, h⟩⟩
        · rintro ⟨p, ⟨-, h⟩ | ⟨-, h⟩⟩
          · exact .inl (hsub p k h)
          · exact .inr h
    · rw [List.getElem?_set_ne (Ne.symm hq)] at eq
      by_cases hqj : q = j
      · subst hqj
        rw [List.getElem?_set_self hj] at eq
        cases eq
        intro k hk
        simp [hq] at hk
      · rw [List.getElem?_set_ne (Ne.symm hqj)] at eq
        simpa [hq, hqj] using h1 q C eq
  · rcases q1 with ⟨rfl, q1⟩ | ⟨n1, m1, q1⟩ <;> rcases q2 with ⟨rfl, q2⟩ | ⟨n2, m2, q2⟩
    · exact hxy rfl
    · rcases q1 with q1 | q1
      · exact h2 _ _ k (Ne.symm n2) q1 q2
      · exact h2 _ _ k (Ne.symm m2) q1 q2
    · rcases q2 with q2 | q2
      · exact h2 _ _ k (Ne.symm n1) q2 q1
      · exact h2 _ _ k (Ne.symm m1) q2 q1
    · exact h2 _ _ k hxy q1 q2
  · rw [List.length_set, List.length_set]
    rcases h with ⟨rfl, -⟩ | ⟨-, -, h⟩
    · exact hi
    · exact h3 q k h
  · rcases h with ⟨rfl, h | h⟩ | ⟨-, -, h⟩
    · exact h4 _ k h
    · exact h4 _ k h
    · exact h4 _ k h
/-- A part among the parts of a part. -/
theorem Sp.inner (H : Sp F0 w0 w L) {M : List Pt} (e : L[i]? = some (Pt.all M)) : Sp F0 w0 w M := by
  have h := (H.split e).pick ((List.range M.length).map (· + L.length)) (by
    rw [List.nodup_iff_pairwise_ne] at *
    rw [List.pairwise_map]
    exact (List.nodup_range (n := M.length)).imp fun h => by omega)
  rw [List.map_map] at h
  have : (List.range M.length).map ((fun i_1 => (L.set i Pt.nil ++ M).getD i_1 Pt.nil) ∘ fun x => x + L.length) = M := by
    apply List.ext_getElem?
    intro j
    rw [List.getElem?_map]
    rcases Nat.lt_or_ge j M.length with hj | hj
    · rw [List.getElem?_range hj]
      simp [List.getD, List.getElem?_append_right, hj]
    · rw [List.getElem?_eq_none (by simpa using hj), List.getElem?_eq_none hj]; rfl
  rwa [this] at h
section
variable {P : Program}
theorem Sp.run_append (H : Sp F0 w0 w L) (t ty E : TypeId) (q : TypeInfo) (z : Value) (size bytes : Nat) (ht : P.underlying t = some (.slice E)) (hi : P.info? E = some q) (hz : q.zero = some z)
    (hsize : q.size = size) (hby : q.bytes = bytes) (hzs : z.cells.size = size) (hsz : 0 < size)
    {ao : Option Addr} {n c : Nat} {xs : List Value} (hr : L[i]? = some (Pt.row ⟨E, size, ao, n, c, xs⟩))
    (a : Addr) (m c' : Nat) (news : List Value) (hl : news.length = m * size) (hnews : ∀ j u, news[j]? = some u → w.cell? (a.add j) = some u) (h1 : ∀ u ∈ news, u.oneCell' = true)
    (h63 : n + m ≤ maxLen) (hbytes : (n + m) * bytes ≤ 140737488355328) :
    ∃ bo d w', (Builtin.append_ #[t, t] ty #[.slice ao n c, .slice (some a) m c']).run P w = .ok (.slice bo (n + m) d) w' ∧ Sp F0 w0 w' (L.set i (Pt.row ⟨E, size, bo, n + m, d, xs ++ news⟩)) := by
  obtain ⟨F, hF, -, -, hh⟩ := H.hole hr
  obtain ⟨v', w', g1, g2, g3, g4, g5⟩ := Go.run_append_own_at (P := P) w 0 t ty E q z size bytes ht hi hz hsize hby hzs hsz _ n xs hF.1 a m c' news hl hnews h1 h63 hbytes (Nat.zero_le _)
  obtain ⟨bo, d, rfl, hf⟩ := own_form' g2
  refine ⟨bo, d, w', g1, hh w' _ (fun k => (Value.slice bo (n + m) d).ownBlock = some k) ⟨g2, fun k => Iff.rfl⟩ (fun k hk => ?_) ((Out.refl F w).grown g3 fun k hk => .inl ((hF.2 k).2 hk))⟩
  rcases g5 with g5 | g5
  · left
    refine (hF.2 k).2 ?_
    show (Value.slice ao n c).ownBlock = some k
    rw [← hk]
    exact g5.symm
  · right
    rw [hk] at g5
    cases g5
    exact Nat.le_refl _
theorem Sp.wp_append (H : Sp F0 w0 w L) {o : Oper} {a : Act} {K : Act → World → Prop} {Q : Exit → Act → World → Prop} (s x : Operand) (t : TypeId)
    (ho : o.op = .call { callee := .builtin .append, args := #[s, x], argTypes := #[t, t] })
    (E : TypeId) (q : TypeInfo) (z : Value) (size bytes : Nat) (ht : P.underlying t = some (.slice E)) (hi : P.info? E = some q) (hz : q.zero = some z)
    (hsize : q.size = size) (hby : q.bytes = bytes) (hzs : z.cells.size = size) (hsz : 0 < size)
    {ao : Option Addr} {n c : Nat} {xs : List Value} (hr : L[i]? = some (Pt.row ⟨E, size, ao, n, c, xs⟩)) (hs : a.eval s = .slice ao n c)
    (ad : Addr) (m c' : Nat) (hx : a.eval x = .slice (some ad) m c') (news : List Value) (hl : news.length = m * size) (hnews : ∀ j u, news[j]? = some u → w.cell? (ad.add j) = some u) (h1 : ∀ u ∈ news, u.oneCell' = true)
    (h63 : n + m ≤ maxLen) (hbytes : (n + m) * bytes ≤ 140737488355328)
    (hk : ∀ bo d w', Sp F0 w0 w' (L.set i (Pt.row ⟨E, size, bo, n + m, d, xs ++ news⟩)) → K (a.put o.dst (.slice bo (n + m) d)) w') : o.wp P a w K Q := by
  obtain ⟨bo, d, w', hrun, h2⟩ := H.run_append (P := P) t o.type E q z size bytes ht hi hz hsize hby hzs hsz hr ad m c' news hl hnews h1 h63 hbytes
  unfold Oper.wp execOp
  simp only [ho, resolve, invoke, builtin, Sem.run_bind, Sem.run_pure, Result.andThen_ok, List.map_toArray, List.map_cons, List.map_nil, hs, hx, hrun]
  exact hk bo d w' h2
theorem Sp.step_append (H : Sp F0 w0 w L) {ops : Array Oper} {o : Oper} {a : Act} {K : Act → World → Prop} {Q : Exit → Act → World → Prop} {Z : Prop} (hgd : o.guard = none) (s x : Operand) (t : TypeId)
    (ho : o.op = .call { callee := .builtin .append, args := #[s, x], argTypes := #[t, t] })
    (E : TypeId) (q : TypeInfo) (z : Value) (size bytes : Nat) (ht : P.underlying t = some (.slice E)) (hi : P.info? E = some q) (hz : q.zero = some z)
    (hsize : q.size = size) (hby : q.bytes = bytes) (hzs : z.cells.size = size) (hsz : 0 < size)
    {ao : Option Addr} {n c : Nat} {xs : List Value} (hr : L[i]? = some (Pt.row ⟨E, size, ao, n, c, xs⟩)) (hs : a.eval s = .slice ao n c)
    (ad : Addr) (m c' : Nat) (hx : a.eval x = .slice (some ad) m c') (news : List Value) (hl : news.length = m * size) (hnews : ∀ j u, news[j]? = some u → w.cell? (ad.add j) = some u) (h1 : ∀ u ∈ news, u.oneCell' = true)
    (h63 : n + m ≤ maxLen) (hbytes : (n + m) * bytes ≤ 140737488355328)
    (hk : ∀ bo d w', Sp F0 w0 w' (L.set i (Pt.row ⟨E, size, bo, n + m, d, xs ++ news⟩)) → K (a.put o.dst (.slice bo (n + m) d)) w') :
    if Region.wanted o (yielded ops a.tmps) = true then Oper.wp P o a w K Q else Z := by
  have hw : Region.wanted o (yielded ops a.tmps) = true := by simp [Region.wanted, hgd]
  rw [if_pos hw]
  exact H.wp_append s x t ho E q z size bytes ht hi hz hsize hby hzs hsz hr hs ad m c' hx news hl hnews h1 h63 hbytes hk
theorem Sp.wpList_append (H : Sp F0 w0 w L) {ops : Array Oper} {rest : List Oper} {o : Oper} {a : Act} {Q : Exit → Act → World → Prop} (hgd : o.guard = none) (s x : Operand) (t : TypeId)
    (ho : o.op = .call { callee := .builtin .append, args := #[s, x], argTypes := #[t, t] })
    (E : TypeId) (q : TypeInfo) (z : Value) (size bytes : Nat) (ht : P.underlying t = some (.slice E)) (hi : P.info? E = some q) (hz : q.zero = some z)
    (hsize : q.size = size) (hby : q.bytes = bytes) (hzs : z.cells.size = size) (hsz : 0 < size)
    {ao : Option Addr} {n c : Nat} {xs : List Value} (hr : L[i]? = some (Pt.row ⟨E, size, ao, n, c, xs⟩)) (hs : a.eval s = .slice ao n c)
    (ad : Addr) (m c' : Nat) (hx : a.eval x = .slice (some ad) m c') (news : List Value) (hl : news.length = m * size) (hnews : ∀ j u, news[j]? = some u → w.cell? (ad.add j) = some u) (h1 : ∀ u ∈ news, u.oneCell' = true)
    (h63 : n + m ≤ maxLen) (hbytes : (n + m) * bytes ≤ 140737488355328)
    (hk : ∀ bo d w', Sp F0 w0 w' (L.set i (Pt.row ⟨E, size, bo, n + m, d, xs ++ news⟩)) → wpList P ops Q rest (a.put o.dst (.slice bo (n + m) d)) w') : wpList P ops Q (o :: rest) a w :=
  wpList_plain hgd fun _ hK => H.wp_append s x t ho E q z size bytes ht hi hz hsize hby hzs hsz hr hs ad m c' hx news hl hnews h1 h63 hbytes fun bo d w' h2 => hK _ _ (hk bo d w' h2)
/-- append of a list that is read to a row of integers. -/
theorem Sp.run_loc (H : Sp F0 w0 w L) (t ty E : TypeId) (q : TypeInfo) (ht : P.underlying t = some (.slice E)) (hi : P.info? E = some q) (hz : q.zero = some (.int .i64 0)) (hsize : q.size = 1) (hby : q.bytes = 8)
    {ao : Option Addr} {n c : Nat} {xs : List Int} (hr : L[i]? = some (Pt.ints E ao n c xs)) {la : Option Addr} {m lc : Nat} {zs : List Int} (hL : Ls w la m lc zs) (h63 : (n + m) * 8 ≤ 140737488351232) :
    ∃ bo d w', (Builtin.append_ #[t, t] ty #[.slice ao n c, .slice la m lc]).run P w = .ok (.slice bo (n + m) d) w' ∧ Sp F0 w0 w' (L.set i (Pt.ints E bo (n + m) d (xs ++ zs))) := by
  obtain ⟨F, hF, -, -, hh⟩ := H.hole hr
  obtain ⟨bo, d, w', g1, g2, g3, g4, g5⟩ := run_append_loc (P := P) w 0 t ty E q ht hi hz hsize hby _ n xs hF.2.1 hL (by omega) (Nat.zero_le _)
  refine ⟨bo, d, w', g1, hh w' _ (fun k => (Value.slice bo (n + m) d).ownBlock = some k) ⟨⟨h63, fun i => ?_⟩, g2, fun k => Iff.rfl⟩ (fun k hk => ?_) ((Out.refl F w).grown g3 fun k hk => .inl ((hF.2.2 k).2 hk))⟩
  · by_cases h : i < xs.length
    · have := hF.1.2 i; simpa [List.getD, List.getElem?_append_left h] using this
    · have := hL.rng (i - xs.length); simpa [List.getD, List.getElem?_append_right (Nat.le_of_not_lt h)] using this
  · rcases g4 k hk with g4 | g4
    · exact .inl ((hF.2.2 k).2 g4)
    · exact .inr (by omega)
theorem Sp.wp_loc (H : Sp F0 w0 w L) {o : Oper} {a : Act} {K : Act → World → Prop} {Q : Exit → Act → World → Prop} (s x : Operand) (t : TypeId)
    (ho : o.op = .call { callee := .builtin .append, args := #[s, x], argTypes := #[t, t] })
    (E : TypeId) (q : TypeInfo) (ht : P.underlying t = some (.slice E)) (hi : P.info? E = some q) (hz : q.zero = some (.int .i64 0)) (hsize : q.size = 1) (hby : q.bytes = 8)
    {ao : Option Addr} {n c : Nat} {xs : List Int} (hr : L[i]? = some (Pt.ints E ao n c xs)) (hs : a.eval s = .slice ao n c) {la : Option Addr} {m lc : Nat} {zs : List Int} (hx : a.eval x = .slice la m lc) (hL : Ls w la m lc zs) (h63 : (n + m) * 8 ≤ 140737488351232)
    (hk : ∀ bo d w', Sp F0 w0 w' (L.set i (Pt.ints E bo (n + m) d (xs ++ zs))) → K (a.put o.dst (.slice bo (n + m) d)) w') : o.wp P a w K Q := by
  obtain ⟨bo, d, w', hrun, h2⟩ := H.run_loc (P := P) t o.type E q ht hi hz hsize hby hr hL h63
  unfold Oper.wp execOp
  simp only [ho, resolve, invoke, builtin, Sem.run_bind, Sem.run_pure, Result.andThen_ok, List.map_toArray, List.map_cons, List.map_nil, hs, hx, hrun]
  exact hk bo d w' h2
theorem Sp.step_loc (H : Sp F0 w0 w L) {ops : Array Oper} {o : Oper} {a : Act} {K : Act → World → Prop} {Q : Exit → Act → World → Prop} {Z : Prop} (hgd : o.guard = none) (s x : Operand) (t : TypeId)
    (ho : o.op = .call { callee := .builtin .append, args := #[s, x], argTypes := #[t, t] })
    (E : TypeId) (q : TypeInfo) (ht : P.underlying t = some (.slice E)) (hi : P.info? E = some q) (hz : q.zero = some (.int .i64 0)) (hsize : q.size = 1) (hby : q.bytes = 8)
    {ao : Option Addr} {n c : Nat} {xs : List Int} (hr : L[i]? = some (Pt.ints E ao n c xs)) (hs : a.eval s = .slice ao n c) {la : Option Addr} {m lc : Nat} {zs : List Int} (hx : a.eval x = .slice la m lc) (hL : Ls w la m lc zs) (h63 : (n + m) * 8 ≤ 140737488351232)
    (hk : ∀ bo d w', Sp F0 w0 w' (L.set i (Pt.ints E bo (n + m) d (xs ++ zs))) → K (a.put o.dst (.slice bo (n + m) d)) w') :
    if Region.wanted o (yielded ops a.tmps) = true then Oper.wp P o a w K Q else Z := by
  have hw : Region.wanted o (yielded ops a.tmps) = true := by simp [Region.wanted, hgd]
  rw [if_pos hw]
  exact H.wp_loc s x t ho E q ht hi hz hsize hby hr hs hx hL h63 hk
theorem Sp.wpList_loc (H : Sp F0 w0 w L) {ops : Array Oper} {rest : List Oper} {o : Oper} {a : Act} {Q : Exit → Act → World → Prop} (hgd : o.guard = none) (s x : Operand) (t : TypeId)
    (ho : o.op = .call { callee := .builtin .append, args := #[s, x], argTypes := #[t, t] })
    (E : TypeId) (q : TypeInfo) (ht : P.underlying t = some (.slice E)) (hi : P.info? E = some q) (hz : q.zero = some (.int .i64 0)) (hsize : q.size = 1) (hby : q.bytes = 8)
    {ao : Option Addr} {n c : Nat} {xs : List Int} (hr : L[i]? = some (Pt.ints E ao n c xs)) (hs : a.eval s = .slice ao n c) {la : Option Addr} {m lc : Nat} {zs : List Int} (hx : a.eval x = .slice la m lc) (hL : Ls w la m lc zs) (h63 : (n + m) * 8 ≤ 140737488351232)
    (hk : ∀ bo d w', Sp F0 w0 w' (L.set i (Pt.ints E bo (n + m) d (xs ++ zs))) → wpList P ops Q rest (a.put o.dst (.slice bo (n + m) d)) w') : wpList P ops Q (o :: rest) a w :=
  wpList_plain hgd fun _ hK => H.wp_loc s x t ho E q ht hi hz hsize hby hr hs hx hL h63 fun bo d w' h2 => hK _ _ (hk bo d w' h2)
end
end
end Go.Proofs.Ythackmkdicpdeaa
namespace Go.Proofs.Ythackmkdicpdeaa
open Go.RowKit Go.Lib
set_option linter.unusedVariables false
set_option linter.unusedSimpArgs false
theorem cellsA_len (As : List Ar) : (cellsA As).length = As.length * 2 := by
  unfold cellsA
  induction As with
  | nil => rfl
  | cons A r ih => rw [List.flatMap_cons, List.length_append, ih, List.length_cons]; simp; omega
theorem cellsA_app (As Bs : List Ar) : cellsA (As ++ Bs) = cellsA As ++ cellsA Bs := by simp [cellsA]
theorem cellsA_at : ∀ {As : List Ar} {k : Nat} {A : Ar}, As[k]? = some A → (cellsA As)[k * 2]? = some (.slice A.sa A.sn A.sc) ∧ (cellsA As)[k * 2 + 1]? = some (.slice A.aa A.an A.ac)
  | [], k, A, h => by simp at h
  | B :: r, 0, A, h => by simp at h; subst h; exact ⟨rfl, rfl⟩
  | B :: r, k + 1, A, h => by
    have h' := cellsA_at (As := r) (k := k) (A := A) (by simpa using h)
    have e : cellsA (B :: r) = [.slice B.sa B.sn B.sc, .slice B.aa B.an B.ac] ++ cellsA r := rfl
    rw [e, List.getElem?_append_right (by simp; omega), List.getElem?_append_right (by simp; omega)]
    simpa [Nat.succ_mul] using h'
/-- A slice of arrays that is read. -/
structure Ars (w : World) (ao : Option Addr) (n c : Nat) (As : List Ar) : Prop where
  len : As.length = n
  cap : n ≤ c
  top : c ≤ maxLen
  mem : 0 < n → ∃ b off, ao = some ⟨b, off, none⟩ ∧ b < w.heap.size ∧ ∀ (i : Nat) (A : Ar), As[i]? = some A → w.cell? ⟨b, off + i * 2, none⟩ = some (.slice A.sa A.sn A.sc) ∧ w.cell? ⟨b, off + (i * 2 + 1), none⟩ = some (.slice A.aa A.an A.ac)
  all : ∀ (i : Nat) (A : Ar), As[i]? = some A → A.Is w
theorem Ars.below {w w' : World} {ao : Option Addr} {n c : Nat} {As : List Ar} (h : Ars w ao n c As) {B : Nat} (hb : Below B w w') (hB : w.heap.size ≤ B) : Ars w' ao n c As :=
  ⟨h.len, h.cap, h.top, fun h0 => by
    obtain ⟨b, off, e, hlt, hc⟩ := h.mem h0
    refine ⟨b, off, e, Nat.lt_of_lt_of_le hlt hb.size, fun i A hA => ?_⟩
    obtain ⟨h1, h2⟩ := hc i A hA
    exact ⟨(hb.cell (p := ⟨b, off + i * 2, none⟩) (by dsimp only; omega)).trans h1, (hb.cell (p := ⟨b, off + (i * 2 + 1), none⟩) (by dsimp only; omega)).trans h2⟩,
  fun i A hA => (h.all i A hA).below hb hB⟩
theorem Ars.via {w w' : World} {ao : Option Addr} {n c : Nat} {As : List Ar} (h : Ars w ao n c As) (hb : Below w.heap.size w w') : Ars w' ao n c As := h.below hb (Nat.le_refl _)
/-- Lengths and atoms. -/
def Ar.sa2 (A : Ar) : List Int × List Int := (A.s, A.a)
section
variable {F0 : Nat → Prop} {w0 w w' : World} {L : List Pt} {i : Nat} {A A' : Pt}
theorem Sp.ars (H : Sp F0 w0 w L) {ao : Option Addr} {n c : Nat} {As : List Ar} (e : L[i]? = some (Pt.arrs ao n c As)) : Ars w ao n c As := by
  have h1 := H.inner e
  have hc := h1.rcap (i := 0) rfl
  have h2 := h1.inner (i := 1) (M := As.map Pt.arr) rfl
  obtain ⟨c1, c2, c3, c4, c5⟩ := hc
  rw [cellsA_len] at c3
  refine ⟨by omega, c1, c2, fun h0 => ?_, fun k A hA => h2.isA (i := k) (by rw [List.getElem?_map, hA]; rfl)⟩
  obtain ⟨g, rfl⟩ := c5 (by omega)
  refine ⟨g, 0, rfl, (h1.rlt (i := 0) rfl).1, fun k A hA => ?_⟩
  obtain ⟨q1, q2⟩ := cellsA_at hA
  rw [Nat.zero_add, Nat.zero_add]
  exact ⟨h1.cell (i := 0) rfl _ _ q1, h1.cell (i := 0) rfl _ _ q2⟩
/-- The parts of a slice of arrays, seen beside one another. -/
theorem Sp.arsOf (H : Sp F0 w0 w L) {ao : Option Addr} {n c j : Nat} {As : List Ar} (e : L[i]? = some (Pt.row ⟨45, 2, ao, n, c, cellsA As⟩)) (e2 : L[j]? = some (Pt.all (As.map Pt.arr))) : Ars w ao n c As := by
  obtain ⟨c1, c2, c3, c4, c5⟩ := H.rcap e
  have h2 := H.inner e2
  rw [cellsA_len] at c3
  refine ⟨by omega, c1, c2, fun h0 => ?_, fun k A hA => h2.isA (i := k) (by rw [List.getElem?_map, hA]; rfl)⟩
  obtain ⟨g, rfl⟩ := c5 (by omega)
  refine ⟨g, 0, rfl, (H.rlt e).1, fun k A hA => ?_⟩
  obtain ⟨q1, q2⟩ := cellsA_at hA
  rw [Nat.zero_add, Nat.zero_add]
  exact ⟨H.cell e _ _ q1, H.cell e _ _ q2⟩
theorem Pt.all_one {A : Pt} {F : Nat → Prop} (h : A.P w F) : (Pt.all [A]).P w F :=
  ⟨fun i k => i = 0 ∧ F k, fun i B e => by
    cases i with
    | zero => simp at e; subst e; simpa using h
    | succ i => simp at e, fun i j k hij h1 h2 => hij (h1.1.trans h2.1.symm), fun i k h => by simp [h.1], fun k => by simp⟩
theorem Sp.pair (H : Sp F0 w0 w L) {j : Nat} {B : Pt} (e : L[i]? = some A) (hij : i ≠ j) (e2 : L[j]? = some B) : Sp F0 w0 w ((L.set j Pt.nil).set i (Pt.all [A, B])) := by
  have hil := (List.getElem?_eq_some_iff.1 e).1
  have h1 := H.sub e (Pt.all [A]) fun F hF => Pt.all_one hF
  have h2 := h1.snoc (i := i) (j := j) (M := [A]) (B := B) (List.getElem?_set_self hil) hij (by rw [List.getElem?_set_ne hij]; exact e2)
  rwa [List.set_comm _ _ (Ne.symm hij), List.set_set, List.set_comm _ _ hij] at h2
theorem Sp.allNil (H : Sp F0 w0 w L) : Sp F0 w0 w (L ++ [Pt.all []]) :=
  H.add (M := [Pt.all []]) ⟨Out.refl _ _, fun _ _ => False, fun i A e => by
    cases i with
    | zero => simp at e; subst e; exact ⟨fun _ _ => False, fun i A e => by simp at e, fun _ _ _ _ h => h.elim, fun _ _ h => h.elim, fun k => by simp⟩
    | succ i => simp at e, fun _ _ _ _ h => h.elim, fun _ _ h => h.elim, fun _ _ h => h.elim⟩
/-- An array more. -/
theorem Sp.arrMore (H : Sp F0 w0 w L) {As : List Ar} {j : Nat} {B : Ar} (e : L[i]? = some (Pt.all (As.map Pt.arr))) (hij : i ≠ j) (e2 : L[j]? = some (Pt.arr B)) : Sp F0 w0 w ((L.set j Pt.nil).set i (Pt.all ((As ++ [B]).map Pt.arr))) := by
  rw [List.map_append]
  exact H.snoc e hij e2
theorem Sp.arrsOf (H : Sp F0 w0 w L) {ao : Option Addr} {n c j : Nat} {As : List Ar} (e : L[i]? = some (Pt.row ⟨45, 2, ao, n, c, cellsA As⟩)) (hij : i ≠ j) (e2 : L[j]? = some (Pt.all (As.map Pt.arr))) : Sp F0 w0 w ((L.set j Pt.nil).set i (Pt.arrs ao n c As)) := H.pair e hij e2
theorem Sp.llNew (H : Sp F0 w0 w L) {ao bo : Option Addr} {n c m d : Nat} {xs ys : List Int} {E E2 : TypeId} (hL1 : Ls w' ao n c xs) (hL2 : Ls w' bo m d ys) (hO1 : w'.ownsRow w.heap.size E 1 (.slice ao n c) n (xs.map (Value.int .i64)))
    (hO2 : w'.ownsRow w.heap.size E2 1 (.slice bo m d) m (ys.map (Value.int .i64))) (hne : ∀ g, (Value.slice ao n c).ownBlock = some g → (Value.slice bo m d).ownBlock ≠ some g) (hb : Below w.heap.size w w') :
    Sp F0 w0 w' (L ++ [Pt.ints E ao n c xs, Pt.ints E2 bo m d ys]) := by
  refine H.add ⟨Out.of hb, fun i k => (i = 0 ∧ (Value.slice ao n c).ownBlock = some k) ∨ (i = 1 ∧ (Value.slice bo m d).ownBlock = some k), fun i A e => ?_, fun i j k hij q1 q2 => ?_, fun i k h => ?_, fun i k h => .inr ?_⟩
  · match i with
    | 0 => simp at e; subst e; exact ⟨⟨hL1.big, hL1.rng⟩, Rw.own.base (r := ⟨E, 1, ao, n, c, xs.map (Value.int .i64)⟩) hO1 (fun _ _ => Nat.zero_le _), fun k => by simp [Rw.v]⟩
    | 1 => simp at e; subst e; exact ⟨⟨hL2.big, hL2.rng⟩, Rw.own.base (r := ⟨E2, 1, bo, m, d, ys.map (Value.int .i64)⟩) hO2 (fun _ _ => Nat.zero_le _), fun k => by simp [Rw.v]⟩
    | i + 2 => simp at e
  · rcases q1 with ⟨rfl, q1⟩ | ⟨rfl, q1⟩ <;> rcases q2 with ⟨rfl, q2⟩ | ⟨rfl, q2⟩
    · exact hij rfl
    · exact hne k q1 q2
    · exact hne k q2 q1
    · exact hij rfl
  · rcases h with ⟨rfl, -⟩ | ⟨rfl, -⟩ <;> simp
  · rcases h with ⟨-, h⟩ | ⟨-, h⟩
    · exact (own_block hO1 h).1
    · exact (own_block hO2 h).1
end
/-- Two cells of a box that was just laid. -/
theorem newsA (w : World) (T : TypeId) (x y : Value) : ∀ (q : Nat) (v : Value), [x, y][q]? = some v → (w.alloc (.cells #[x, y] T)).cell? (Addr.add ⟨w.heap.size, 0, none⟩ q) = some v := by
  intro q v hv
  match q with
  | 0 => simp at hv; subst hv; simp [go_sem]
  | 1 => simp at hv; subst hv; simp [go_sem]
  | q + 2 => simp at hv
end Go.Proofs.Ythackmkdicpdeaa

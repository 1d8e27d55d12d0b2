/- Rows by names as one part of memory: opened for a call, closed behind it. -/
import Derived.Test.YthackmkdicpdeaaSep3
import Derived.Test.YthackmkdicpdeaaMerge
namespace Go.Proofs.Ythackmkdicpdeaa
open Go.RowKit Go.Lib
set_option linter.unusedVariables false
set_option linter.unusedSimpArgs false
abbrev Rws := Nat × Nat × Nat → Rw
/-- The rows below 100 alone. -/
def cutR (R : Rws) : Rws := fun t => if 100 ≤ t.1 then Rw.nil else R t
theorem cutR_at {R : Rws} {t : Nat × Nat × Nat} (h : t.1 < 100) : cutR R t = R t := if_neg (by omega)
theorem cutR_hi {R : Rws} {t : Nat × Nat × Nat} (h : 100 ≤ t.1) : cutR R t = Rw.nil := if_pos h
/-- Rows by names, of which C holds. -/
def Pt.hold (C : Rws → Prop) : Pt :=
  ⟨fun w F => ∃ R : Rws, C R ∧ (∀ t, (R t).own w 0) ∧ (∀ t s, t ≠ s → ∀ g, (R t).v.ownBlock = some g → (R s).v.ownBlock ≠ some g) ∧ (∀ t, 100 ≤ t.1 → R t = Rw.nil) ∧ ∀ k, F k ↔ ∃ t, (R t).v.ownBlock = some k,
   fun w w' F h hs hk => by
    obtain ⟨R, h1, h2, h3, h4, h5⟩ := h
    exact ⟨R, h1, fun t => own_same (h2 t) fun g hg => hk g ((h5 g).2 ⟨t, hg⟩), h3, h4, h5⟩,
   fun w F k h hF => by
    obtain ⟨R, h1, h2, h3, h4, h5⟩ := h
    obtain ⟨t, ht⟩ := (h5 k).1 hF
    exact own_plain (h2 t) ht⟩
/-- One block as a row. -/
noncomputable def blkR (w : World) (k : Nat) : Rw :=
  match w.heap[k]? with
  | some (.cells cur T (0, 0)) => ⟨T, cur.size, some ⟨k, 0, none⟩, 1, 1, cur.toList⟩
  | _ => Rw.nil
theorem blkR_of {w : World} {k : Nat} {cur : Array Value} {T : TypeId} (h : w.heap[k]? = some (.cells cur T (0, 0))) : blkR w k = ⟨T, cur.size, some ⟨k, 0, none⟩, 1, 1, cur.toList⟩ := by
  unfold blkR; rw [h]; rfl
theorem blkR_own {w : World} {k b : Nat} {cur : Array Value} {T : TypeId} (h : w.heap[k]? = some (.cells cur T (0, 0))) (hb : b ≤ k) : (blkR w k).own w b := by
  rw [blkR_of h]
  exact ⟨by simp, .inr ⟨k, 1, cur, rfl, hb, h, Nat.le_refl _, by decide, by simp, by rw [Nat.one_mul, List.take_of_length_le (by simp)]⟩⟩
theorem blkR_block {w : World} {k g : Nat} (h : (blkR w k).v.ownBlock = some g) : g = k := by
  unfold blkR at h
  split at h
  · simp [Rw.v, Value.ownBlock] at h; exact h.symm
  · exact absurd h (Rw.nil_block g)
theorem blkR_same {w w' : World} {k b : Nat} {cur : Array Value} {T : TypeId} (h : w.heap[k]? = some (.cells cur T (0, 0))) (ho : (blkR w k).own w' b) : w'.heap[k]? = w.heap[k]? := by
  rw [blkR_of h] at ho
  obtain ⟨h1, h2 | ⟨g, cap, cur', hv, hg, hh, h3, h4, h5, h6⟩⟩ := ho
  · cases h2.1
  · simp only [Rw.v, Value.slice.injEq, Option.some.injEq, Addr.mk.injEq] at hv
    obtain ⟨⟨rfl, -⟩, -, rfl⟩ := hv
    rw [hh, h]
    simp only [Nat.one_mul] at h5 h6
    have : cur' = cur := by
      apply Array.ext'
      rw [← h6, List.take_of_length_le (by simp [h5])]
    rw [this]
open Classical in
/-- The rows of a part beside all the others' blocks. -/
noncomputable def withR (R : Rws) (w : World) (Fs : Nat → Nat → Prop) (i : Nat) : Rws := fun t => if 100 ≤ t.1 then (if t.1 - 100 ≠ i ∧ t.2.2 = 0 ∧ Fs (t.1 - 100) t.2.1 then blkR w t.2.1 else Rw.nil) else R t
theorem withR_cut {R : Rws} {w : World} {Fs : Nat → Nat → Prop} {i : Nat} (h : ∀ t, 100 ≤ t.1 → R t = Rw.nil) : cutR (withR R w Fs i) = R := by
  funext t
  unfold cutR withR
  by_cases ht : 100 ≤ t.1
  · rw [if_pos ht, h t ht]
  · rw [if_neg ht, if_neg ht]
/-- **A part of rows by names is opened: its rows, all other parts' blocks beside them; and closed again.** -/
theorem Sp.holdOpen {w0 w : World} {L : List Pt} {i : Nat} {C : Rws → Prop} (H : Sp Non w0 w L) (e : L[i]? = some (Pt.hold C)) :
    ∃ R : Rws, Hold w0.heap.size w R ∧ C (cutR R) ∧ ∀ (w' : World) (R' : Rws) (C' : Rws → Prop), Hold w0.heap.size w' R' → Below w0.heap.size w w' → (∀ t, 100 ≤ t.1 → R' t = R t) → C' (cutR R') → Sp Non w0 w' (L.set i (Pt.hold C')) := by
  have hbel := H.belowN
  obtain ⟨Fs, h1, h2, h3, h4⟩ := H.pts
  obtain ⟨R, c1, c2, c3, c4, c5⟩ := h1 i _ e
  have hil := (List.getElem?_eq_some_iff.1 e).1
  have hge : ∀ j k, Fs j k → w0.heap.size ≤ k := fun j k h => (h4 j k h).elim (fun h => h.elim) id
  have hpl : ∀ j k, Fs j k → ∃ (cur : Array Value) (T : TypeId), w.heap[k]? = some (.cells cur T (0, 0)) := fun j k h => by
    have hl := h3 j k h
    exact L[j].pl w (Fs j) k (h1 j L[j] (List.getElem?_eq_getElem hl)) h
  have hcut : cutR (withR R w Fs i) = R := withR_cut c4
  have hlo : ∀ t : Nat × Nat × Nat, t.1 < 100 → withR R w Fs i t = R t := fun t ht => by unfold withR; rw [if_neg (by omega)]
  have hhi : ∀ t : Nat × Nat × Nat, 100 ≤ t.1 → (t.1 - 100 ≠ i ∧ t.2.2 = 0 ∧ Fs (t.1 - 100) t.2.1 ∧ withR R w Fs i t = blkR w t.2.1) ∨ withR R w Fs i t = Rw.nil := fun t ht => by
    unfold withR
    rw [if_pos ht]
    by_cases hc : t.1 - 100 ≠ i ∧ t.2.2 = 0 ∧ Fs (t.1 - 100) t.2.1
    · rw [if_pos hc]; exact .inl ⟨hc.1, hc.2.1, hc.2.2, rfl⟩
    · rw [if_neg hc]; exact .inr rfl
  refine ⟨withR R w Fs i, ⟨fun t => ?_, fun t s hts g ht hs => ?_, H.out.size⟩, by rw [hcut]; exact c1, fun w' R' C' hH hB hG hC => ?_⟩
  · rcases Nat.lt_or_ge t.1 100 with ht | ht
    · rw [hlo t ht]
      exact (c2 t).base fun g hg => hge i g ((c5 g).2 ⟨t, hg⟩)
    · rcases hhi t ht with ⟨q1, q2, q3, q4⟩ | q
      · rw [q4]
        obtain ⟨cur, T, hk⟩ := hpl _ _ q3
        exact blkR_own hk (hge _ _ q3)
      · rw [q]; exact Rw.own_nil _ _
  · rcases Nat.lt_or_ge t.1 100 with h100 | h100 <;> rcases Nat.lt_or_ge s.1 100 with s100 | s100
    · rw [hlo t h100] at ht
      rw [hlo s s100] at hs
      exact c3 t s hts g ht hs
    · rw [hlo t h100] at ht
      rcases hhi s s100 with ⟨q1, q2, q3, q4⟩ | q
      · rw [q4] at hs
        have := blkR_block hs
        subst this
        exact h2 _ _ _ q1 q3 ((c5 _).2 ⟨t, ht⟩)
      · rw [q] at hs; exact Rw.nil_block g hs
    · rw [hlo s s100] at hs
      rcases hhi t h100 with ⟨q1, q2, q3, q4⟩ | q
      · rw [q4] at ht
        have := blkR_block ht
        subst this
        exact h2 _ _ _ q1 q3 ((c5 _).2 ⟨s, hs⟩)
      · rw [q] at ht; exact Rw.nil_block g ht
    · rcases hhi t h100 with ⟨q1, q2, q3, q4⟩ | q
      · rcases hhi s s100 with ⟨p1, p2, p3, p4⟩ | p
        · rw [q4] at ht
          rw [p4] at hs
          have e1 := blkR_block ht
          have e2 := blkR_block hs
          have hne : t.1 - 100 ≠ s.1 - 100 := fun hh => hts (by
            obtain ⟨a, b, c⟩ := t
            obtain ⟨a', b', c'⟩ := s
            simp only at *
            have : a = a' := by omega
            rw [this, q2, p2, ← e1, ← e2])
          rw [← e1] at q3
          rw [← e2] at p3
          exact h2 _ _ _ hne q3 p3
        · rw [p] at hs; exact Rw.nil_block g hs
      · rw [q] at ht; exact Rw.nil_block g ht
  · have hBx := hB
    have hsame : ∀ j k, j ≠ i → Fs j k → w'.heap[k]? = w.heap[k]? := fun j k hj hF => by
      obtain ⟨cur, T, hk⟩ := hpl _ _ hF
      have hR : withR R w Fs i (100 + j, k, 0) = blkR w k := by
        rcases hhi (100 + j, k, 0) (by simp) with ⟨-, -, -, q⟩ | q
        · exact q
        · unfold withR
          rw [if_pos (by simp), if_pos ⟨by simpa using hj, rfl, by simpa using hF⟩]
      have ho := hH.own (100 + j, k, 0)
      rw [hG _ (by simp), hR] at ho
      exact blkR_same hk ho
    refine ⟨.of (hbel.trans hB), fun j k => (j = i ∧ ∃ t, (cutR R' t).v.ownBlock = some k) ∨ (j ≠ i ∧ Fs j k), fun j B ej => ?_, fun a b k hab q1 q2 => ?_, fun j k q => ?_, fun j k q => ?_⟩
    · by_cases hj : j = i
      · subst hj
        rw [List.getElem?_set_self hil] at ej
        cases ej
        refine ⟨cutR R', hC, fun t => ?_, fun t s hts g ht hs => ?_, fun t ht => cutR_hi ht, fun k => by simp⟩
        · unfold cutR
          split
          · exact Rw.own_nil _ _
          · exact (hH.own t).base fun g hg => Nat.zero_le _
        · unfold cutR at ht hs
          split at ht
          · exact Rw.nil_block g ht
          · split at hs
            · exact Rw.nil_block g hs
            · exact hH.dis t s hts g ht hs
      · rw [List.getElem?_set_ne (Ne.symm hj)] at ej
        have hB := B.st w w' (Fs j) (h1 j B ej) hBx.size (fun k hk => hsame j k hj hk)
        simpa [hj] using hB
    · have hx : ∀ j k, j ≠ i → Fs j k → ∀ t, (cutR R' t).v.ownBlock ≠ some k := fun j k hj hF t ht => by
        obtain ⟨cur, T, hk⟩ := hpl _ _ hF
        have hR : withR R w Fs i (100 + j, k, 0) = blkR w k := by
          unfold withR
          rw [if_pos (by simp), if_pos ⟨by simpa using hj, rfl, by simpa using hF⟩]
        unfold cutR at ht
        split at ht
        · exact Rw.nil_block k ht
        · refine hH.dis t (100 + j, k, 0) (fun e => ?_) k ht (by rw [hG _ (by simp), hR, blkR_of hk]; rfl)
          rename_i hlt
          rw [e] at hlt
          exact hlt (Nat.le_add_right _ _)
      rcases q1 with ⟨rfl, t, ht⟩ | ⟨n1, q1⟩ <;> rcases q2 with ⟨e2, s, hs⟩ | ⟨n2, q2⟩
      · exact hab e2.symm
      · exact hx b k n2 q2 t ht
      · exact hx a k n1 q1 s hs
      · exact h2 a b k hab q1 q2
    · rw [List.length_set]
      rcases q with ⟨rfl, -⟩ | ⟨n, q⟩
      · exact hil
      · exact h3 j k q
    · right
      rcases q with ⟨rfl, t, ht⟩ | ⟨n, q⟩
      · unfold cutR at ht
        split at ht
        · exact absurd ht (Rw.nil_block k)
        · exact (Rw.own.lt (hH.own t) ht).1
      · exact hge j k q
/-- A part of rows by names, made of rows that are held. -/
theorem Sp.toHold {w0 w : World} {R : Rws} {C : Rws → Prop} (h : Hold w0.heap.size w R) (hb : Below w0.heap.size w0 w) (hn : ∀ t, 100 ≤ t.1 → R t = Rw.nil) (hC : C R) : Sp Non w0 w [Pt.hold C] := by
  refine ⟨.of hb, fun i k => i = 0 ∧ ∃ t, (R t).v.ownBlock = some k, fun i A e => ?_, fun i j k hij q1 q2 => hij (q1.1.trans q2.1.symm), fun i k q => by simp [q.1], fun i k q => .inr ?_⟩
  · match i with
    | 0 =>
      simp only [List.getElem?_cons_zero, Option.some.injEq] at e
      subst e
      exact ⟨R, hC, fun t => (h.own t).base fun g hg => Nat.zero_le _, h.dis, hn, fun k => by simp⟩
    | i + 1 => simp at e
  · obtain ⟨-, t, ht⟩ := q
    exact (Rw.own.lt (h.own t) ht).1
end Go.Proofs.Ythackmkdicpdeaa

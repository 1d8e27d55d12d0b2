/- Worlds that differ in some blocks alone; rows of the call's own that are shortened, lengthened to their capacity, and written over. -/
import Derived.Test.YtoippfoeghjdoaaBelow
import Derived.Test.YtoippfoeghjdoaaAppend
namespace Go.Proofs.Ytoippfoeghjdoaa
open Go.RowKit Go.Lib
set_option linter.unusedVariables false
set_option linter.unusedSimpArgs false
/-- Of the blocks that were there those of F alone may hold something else. -/
structure Out (F : Nat → Prop) (w w' : World) : Prop where
  os : w'.os = w.os
  tape : w'.tape = w.tape
  output : w'.output = w.output
  size : w.heap.size ≤ w'.heap.size
  block : ∀ k, k < w.heap.size → ¬ F k → w'.heap[k]? = w.heap[k]?
theorem Out.refl (F : Nat → Prop) (w : World) : Out F w w := ⟨rfl, rfl, rfl, Nat.le_refl _, fun _ _ _ => rfl⟩
theorem Out.trans {F G : Nat → Prop} {a b c : World} (h : Out F a b) (k : Out G b c) (hG : ∀ i, i < a.heap.size → G i → F i) : Out F a c :=
  ⟨k.os.trans h.os, k.tape.trans h.tape, k.output.trans h.output, Nat.le_trans h.size k.size, fun i hi hn => (k.block i (Nat.lt_of_lt_of_le hi h.size) (fun g => hn (hG i hi g))).trans (h.block i hi hn)⟩
theorem Out.weak {F G : Nat → Prop} {a b : World} (h : Out F a b) (hG : ∀ i, i < a.heap.size → F i → G i) : Out G a b :=
  ⟨h.os, h.tape, h.output, h.size, fun i hi hn => h.block i hi (fun g => hn (hG i hi g))⟩
theorem Out.of {F : Nat → Prop} {w w' : World} (h : Below w.heap.size w w') : Out F w w' := ⟨h.os, h.tape, h.output, h.size, fun k hk _ => h.block k hk⟩
theorem Out.via {F : Nat → Prop} {w w1 w2 : World} (h : Out F w w1) (h2 : Below w1.heap.size w1 w2) : Out F w w2 := h.trans (G := fun _ => False) (.of h2) (fun _ _ h => h.elim)
theorem Out.toBelow {F : Nat → Prop} {w w' : World} (h : Out F w w') {B : Nat} (hF : ∀ k, F k → B ≤ k) (hB : B ≤ w.heap.size) : Below B w w' :=
  ⟨h.os, h.tape, h.output, h.size, fun k hk => h.block k (by omega) (fun f => by have := hF k f; omega)⟩
theorem Out.setCell {F : Nat → Prop} {a w : World} (h : Out F a w) {p : Addr} (hp : F p.block ∨ a.heap.size ≤ p.block) (u : Value) : Out F a (w.setCell p u) := by
  have k : Out (fun k => k = p.block) w (w.setCell p u) := ⟨rfl, rfl, rfl, by simp [World.setCell], fun k hk hn => Below.heap_setCell _ _ _ _ hn⟩
  refine h.trans k fun i hi e => ?_
  rcases hp with hp | hp
  · rw [show i = p.block from e]; exact hp
  · have : i = p.block := e
    omega
theorem Out.alloc {F : Nat → Prop} {a w : World} (h : Out F a w) (o : Obj) : Out F a (w.alloc o) := h.via (abal _ _)
theorem Out.grown {F : Nat → Prop} {a w w' : World} {row : Option Nat} (h : Out F a w) (hg : w.grownBy w' row) (hr : ∀ k, row = some k → F k ∨ a.heap.size ≤ k) : Out F a w' := by
  have k : Out (fun k => row = some k) w w' := ⟨hg.os, hg.tape, hg.output, hg.size, fun k hk hn => hg.block k hk (fun e => hn e.symm)⟩
  refine h.trans k fun i hi e => ?_
  rcases hr i e with hp | hp
  · exact hp
  · omega
theorem Out.cell {F : Nat → Prop} {w w' : World} (h : Out F w w') {p : Addr} (hp : p.block < w.heap.size) (hn : ¬ F p.block) : w'.cell? p = w.cell? p := World.cell?_of_block (w := w) (h.block p.block hp hn)
theorem Out.frozen {F : Nat → Prop} {w w' : World} (h : Out F w w') {p : Addr} (hp : p.block < w.heap.size) (hn : ¬ F p.block) : w'.frozen? p = w.frozen? p := World.frozen?_of_block (w := w) (h.block p.block hp hn)
theorem Out.own {F : Nat → Prop} {w w' : World} (h : Out F w w') {base : Nat} {E : TypeId} {v : Value} {n : Nat} {xs : List Value} (ho : w.ownsRow base E 1 v n xs) (hn : ∀ g, v.ownBlock = some g → ¬ F g) : w'.ownsRow base E 1 v n xs := by
  obtain ⟨h1, h2⟩ := ho
  refine ⟨h1, ?_⟩
  rcases h2 with h2 | ⟨g, cap, cur, hv, hg, hh, r⟩
  · exact .inl h2
  · refine .inr ⟨g, cap, cur, hv, hg, ?_, r⟩
    rw [h.block g (by have := (Array.getElem?_eq_some_iff.1 hh).1; omega) (hn g (by rw [hv]; rfl))]; exact hh
theorem Out.boxA {F : Nat → Prop} {w w' : World} (h : Out F w w') {b : Nat} {u v : Value} (hb : BoxA w b u v) (hn : ¬ F b) : BoxA w' b u v :=
  ⟨(h.cell (p := ⟨b, 0, none⟩) hb.lt hn).trans hb.c0, (h.cell (p := ⟨b, 1, none⟩) hb.lt hn).trans hb.c1, (h.frozen (p := ⟨b, 0, none⟩) hb.lt hn).trans hb.f0, (h.frozen (p := ⟨b, 1, none⟩) hb.lt hn).trans hb.f1, Nat.lt_of_lt_of_le hb.lt h.size⟩
/-- A row cut to none of its elements; lengthened to its capacity. -/
theorem own_shut {w : World} {base : Nat} {E : TypeId} {ao : Option Addr} {n c : Nat} {xs : List Value} (h : w.ownsRow base E 1 (.slice ao n c) n xs) : w.ownsRow base E 1 (.slice ao 0 c) 0 [] := by
  obtain ⟨h1, h2⟩ := h
  refine ⟨rfl, ?_⟩
  rcases h2 with ⟨h2, h3⟩ | ⟨g, cap, cur, hv, hg, hh, hc, hm, hs, ht⟩
  · left; cases h2; exact ⟨rfl, rfl⟩
  · right; cases hv; exact ⟨g, c, cur, rfl, hg, hh, by omega, hm, hs, by simp⟩
theorem own_full {w : World} {base : Nat} {E : TypeId} {ao : Option Addr} {n c : Nat} {xs : List Value} (h : w.ownsRow base E 1 (.slice ao n c) n xs) :
    n ≤ c ∧ c ≤ maxLen ∧ ∃ ys : List Value, ys.length = c - n ∧ w.ownsRow base E 1 (.slice ao c c) c (xs ++ ys) := by
  obtain ⟨h1, h2⟩ := h
  rcases h2 with ⟨h2, h3⟩ | ⟨g, cap, cur, hv, hg, hh, hc, hm, hs, ht⟩
  · cases h2
    have : xs = [] := List.eq_nil_of_length_eq_zero (by omega)
    subst this
    exact ⟨Nat.le_refl _, Nat.zero_le _, [], rfl, rfl, .inl ⟨rfl, rfl⟩⟩
  · cases hv
    rw [Nat.mul_one] at ht hs h1
    have hl : cur.toList.length = c := by simpa using hs
    have he : xs ++ cur.toList.drop n = cur.toList := by rw [← ht, List.take_append_drop]
    refine ⟨hc, hm, cur.toList.drop n, by simp; omega, by rw [he]; omega, .inr ⟨g, c, cur, rfl, hg, hh, Nat.le_refl _, hm, by omega, ?_⟩⟩
    rw [Nat.mul_one, he, List.take_of_length_le (by omega)]
/-- A whole row in one piece. -/
theorem own_some {w : World} {base : Nat} {E : TypeId} {ao : Option Addr} {n c : Nat} {xs : List Value} (h : w.ownsRow base E 1 (.slice ao n c) n xs) (h0 : 0 < c) : ∃ g, ao = some ⟨g, 0, none⟩ ∧ base ≤ g ∧ g < w.heap.size := by
  obtain ⟨h1, h2⟩ := h
  rcases h2 with ⟨h2, h3⟩ | ⟨g, cap, cur, hv, hg, hh, hc⟩
  · cases h2; omega
  · cases hv; exact ⟨g, rfl, hg, (Array.getElem?_eq_some_iff.1 hh).1⟩
theorem own_zero {w : World} {base : Nat} {E : TypeId} {ao : Option Addr} {n c : Nat} {xs : List Value} (h : w.ownsRow base E 1 (.slice ao n c) n xs) (h0 : ao = none) : n = 0 ∧ c = 0 := by
  obtain ⟨h1, h2⟩ := h
  rcases h2 with ⟨h2, h3⟩ | ⟨g, cap, cur, hv, hg, hh, hc⟩
  · cases h2; exact ⟨h3, rfl⟩
  · cases hv; cases h0
end Go.Proofs.Ytoippfoeghjdoaa

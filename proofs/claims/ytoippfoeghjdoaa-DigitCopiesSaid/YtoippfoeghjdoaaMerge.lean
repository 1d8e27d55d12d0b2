/- Rows that a call made, taken into the rows that its caller holds. -/
import Derived.Test.YtoippfoeghjdoaaHold
namespace Go.Proofs.Ytoippfoeghjdoaa
open Go.RowKit Go.Lib
set_option linter.unusedVariables false
set_option linter.unusedSimpArgs false
theorem Rw.own.mono {r : Rw} {w : World} {b b' : Nat} (h : r.own w b) (hb : b' ≤ b) : r.own w b' := by
  obtain ⟨h1, h2 | ⟨g, cap, cur, hv, hg, h3⟩⟩ := h
  · exact ⟨h1, .inl h2⟩
  · exact ⟨h1, .inr ⟨g, cap, cur, hv, Nat.le_trans hb hg, h3⟩⟩
theorem Hold.none (w : World) : Hold w.heap.size w (fun _ => Rw.nil) := ⟨fun _ => Rw.own_nil _ _, fun _ _ _ g hg => absurd hg (Rw.nil_block g), Nat.le_refl _⟩
theorem Hold.merge {base : Nat} {w w' : World} {R R2 : Nat × Nat × Nat → Rw} (h : Hold base w R) (h2 : Hold w.heap.size w' R2) (hb : Below w.heap.size w w') (p : Nat × Nat × Nat → Bool) (g : Nat × Nat × Nat → Nat × Nat × Nat)
    (inj : ∀ t s, p t = true → p s = true → g t = g s → t = s) : Hold base w' (fun t => if p t = true then R2 (g t) else R t) := by
  refine ⟨fun t => ?_, fun t s hts k hk hk' => ?_, Nat.le_trans h.base hb.size⟩
  · by_cases e : p t = true
    · simp only [e, if_true]; exact (h2.own _).mono h.base
    · simp only [e, if_false]; exact (h.own t).via hb
  · by_cases e : p t = true <;> by_cases e' : p s = true <;> simp only [e, e', if_true, if_false] at hk hk'
    · exact h2.dis (g t) (g s) (fun q => hts (inj t s e e' q)) k hk hk'
    · have q1 := ((h2.own _).lt hk).1
      have q2 := ((h.own s).lt hk').2
      omega
    · have q1 := ((h2.own _).lt hk').1
      have q2 := ((h.own t).lt hk).2
      omega
    · exact h.dis t s hts k hk hk'
end Go.Proofs.Ytoippfoeghjdoaa

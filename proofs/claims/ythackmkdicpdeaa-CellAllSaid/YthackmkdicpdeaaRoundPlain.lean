/- Regions inside a round of a range over a function, walked as plain ones. -/
import Derived.Sort.BigQuietIn
import Derived.RangeFuncCalls
import Derived.StillTail
import Derived.TacticsIn
namespace Go.Proofs.Ythackmkdicpdeaa
set_option linter.unusedVariables false
section
variable {n : Nat} {P : Program} {ops : Array Oper} {Q : Exit → Act → World → Prop} {md : Region.Mode} {lb : Nat}
theorem oper_plain {o : Oper} {a : Act} {w : World} {K : Act → World → Prop} (hd : ∀ c, o.op ≠ .defer c) (h : o.wp P a w K Q) : o.wpIn (Fence.wide.inRound lb) n P a w K Q := by
  unfold Oper.wpIn
  refine ⟨fun _ _ => trivial, ?_⟩
  rw [show Oper.semAt (Fence.wide.inRound lb).round a.eval o = execOp a.eval o from Oper.semAt_some _ _ _ hd]
  unfold Oper.wp at h
  have hn : (Fence.wide.inRound lb).depth.isSome = true → 1 ≤ n := fun h => by simp [Fence.wide] at h
  generalize (execOp a.eval o).run P w = r at *
  cases r with
  | ok x w' =>
    cases x with
    | value v => exact h
    | skip => exact h
    | defer d => exact h
    | enter f args => exact ⟨hn, CallsIn.inRound lb (callsIn_wide.2 h)⟩
    | row row args => exact ⟨hn, fun c cs _ => let ⟨v, w', r, s⟩ := h c cs; ⟨v, w', r, stepsIn_wide.2 s⟩⟩
    | _ => exact h.elim
  | halt x w' =>
    cases x <;> exact h
/-- No operation defers. -/
def calmB (l : List Oper) : Bool := l.all fun o => match o.op with | .defer _ => false | _ => true
theorem calm_spec {l : List Oper} (h : calmB l = true) {o : Oper} (ho : o ∈ l) : ∀ c, o.op ≠ .defer c := fun c hc => by
  have := List.all_eq_true.1 h o ho
  rw [hc] at this
  exact absurd this (by simp)
theorem wpListIn_plain (hQ : ¬ LetsOut Q) : ∀ (l : List Oper) (a : Act) (w : World), (∀ o ∈ l, ∀ c, o.op ≠ .defer c) → wpList P ops Q l a w → wpListIn (Fence.wide.inRound lb) n P ops Q l a w
  | [], _, _, _, h => h
  | o :: rest, a, w, hd, h => by
    unfold wpList at h
    unfold wpListIn
    have ih := fun a w => wpListIn_plain hQ rest a w (fun o' ho' => hd o' (List.mem_cons_of_mem _ ho'))
    split
    · rename_i hw
      rw [if_pos hw] at h
      rcases h with h | h
      · exact Oper.wpIn_mono ih (oper_plain (hd o (List.mem_cons_self ..)) h)
      · exact absurd h.2 hQ
    · rename_i hw
      rw [if_neg hw] at h
      exact ⟨fun _ _ => trivial, ih _ _ h⟩
theorem wpAnyIn_plain (hQ : ¬ LetsOut Q) (hd : ∀ (i : Nat) (o : Oper), ops[i]? = some o → ∀ c, o.op ≠ .defer c) : ∀ (fuel : Nat) (listed : Array Bool) (a : Act) (w : World),
    wpAny P md ops Q fuel listed a w → wpAnyIn (Fence.wide.inRound lb) n P md ops Q fuel listed a w
  | 0, _, _, _, h => h
  | fuel + 1, listed, a, w, h => ⟨h.1, fun i hi => by
    have h2 := h.2 i hi
    unfold wpOp at h2
    unfold wpOpIn
    split
    · rename_i e; simp only [e] at h2; exact wpAnyIn_plain hQ hd fuel _ _ _ h2
    · rename_i o e
      simp only [e] at h2
      split
      · rename_i hw
        rw [if_pos hw] at h2
        rcases h2 with h2 | h2
        · exact Oper.wpIn_mono (fun a w => wpAnyIn_plain hQ hd fuel _ a w) (oper_plain (hd i o e) h2)
        · exact absurd h2.2 hQ
      · rename_i hw
        rw [if_neg hw] at h2
        exact ⟨fun _ _ => trivial, wpAnyIn_plain hQ hd fuel _ _ _ h2⟩⟩
theorem calm_at {l : List Oper} (h : calmB l = true) : ∀ (i : Nat) (o : Oper), l.toArray[i]? = some o → ∀ c, o.op ≠ .defer c := fun i o e => calm_spec h (List.mem_of_getElem? (by simpa using e : l[i]? = some o))
/-- The region comes to its end. -/
def OnlyN (Q : Exit → Act → World → Prop) : Exit → Act → World → Prop
  | .normal, a, w => Q .normal a w
  | _, _, _ => False
theorem OnlyN.mk {a : Act} {w : World} (h : Q .normal a w) : OnlyN Q .normal a w := h
theorem OnlyN.shut (Q : Exit → Act → World → Prop) : ¬ LetsOut (OnlyN Q) := fun ⟨_, _, h⟩ => h
theorem OnlyN.imp (e : Exit) (a : Act) (w : World) (h : OnlyN Q e a w) : Q e a w := by cases e <;> first | exact h | exact h.elim
/-- A region in its own order. -/
theorem in_list {id : Nat} {a : Act} {w : World} {l : List Oper} (hd : calmB l = true) (h : wpList P l.toArray (OnlyN Q) l a w) : (Code.region id l.toArray false).wpIn (Fence.wide.inRound lb) n P Q a w :=
  wpIn_mono (wpIn_region_lit (wpListIn_plain (OnlyN.shut Q) l a w (fun o ho => calm_spec hd ho) h)) OnlyN.imp
/-- A region that draws, whose first k operations only read, the rest in one forced order. -/
theorem in_tail {id : Nat} {a : Act} {w : World} {l : List Oper} (k : Nat) (hm : P.follows .mixedOrders = true) (hd : calmB l = true) (hB : Region.lexTailB .any l.toArray k = true)
    (h : wpStill P l.toArray w.drew (fun a' => wpList P l.toArray (OnlyN Q) (l.drop k) a' w.drew) (l.take k) a) : (Code.region id l.toArray true).wpIn (Fence.wide.inRound lb) n P Q a w := by
  simp only [Region.lexTailB, Bool.and_eq_true, decide_eq_true_eq] at hB
  obtain ⟨⟨⟨⟨hsel, hn⟩, hs⟩, hc⟩, hlex⟩ := hB
  have hn' : k < l.length := by simpa using hn
  have htl : (l.take k).length = k := by simp; omega
  have hdl : (l.drop k).length = l.toArray.size - k := by simp
  have inv0 : HeadInv .any l.toArray k (Array.replicate l.toArray.size false) :=
    ⟨by simp, fun j oj _ hl => (by rw [getD_replicate_false] at hl; cases hl), fun t _ ht => getD_in (by simpa using ht) (getD_replicate_false _ _)⟩
  have H := wpAnyL_lex (md := .any) (g := l.toArray.size - k) hsel hs hc hn (l.take k) 0 _ a (fun j hj => by
    have hj' : j < k := by rw [htl] at hj; exact hj
    simp [hj']) (by simpa using htl) inv0 (by rw [htl]; exact hlex) h
  have H2 := wpAny_of_head (Q' := OnlyN Q) (g := l.toArray.size - k) (fun listed a' hL => by
    have := wpAny_of_seq (md := .any) (Q' := OnlyN Q) (l.drop k) k listed a' w.drew (fun j => by simp [List.getElem?_drop]) (by rw [hdl]; exact hL.1) hL.2
    rwa [hdl] at this) _ _ _ H
  rw [htl, show k + (l.toArray.size - k) = l.toArray.size by omega] at H2
  exact wpIn_mono (wpIn_region_any hm (wpAnyIn_plain (OnlyN.shut Q) (calm_at hd) _ _ _ _ H2)) OnlyN.imp
end
end Go.Proofs.Ythackmkdicpdeaa

/- A range over a function whose rounds are handed what the iterator has made for them. shape.All's answer as an iterator: its contract for rounds. -/
import Derived.RangeFuncNested
import Derived.RangeFuncBound
import Derived.RangeFuncCalls
import Derived.RangeFuncLeaves
import Derived.Shelf.Abstract
import Derived.Shelf.RegionOpen
import Derived.WalkKit
import Derived.OwnWalkIn
import Derived.TacticsInMore
import Derived.LoopNIn
import Derived.LoopIn
import Derived.Test.YthackmkdicpdeaaShapeBegun
namespace Go.Proofs.Ythackmkdicpdeaa
open Go.RowKit Go.Lib
set_option linter.unusedVariables false
set_option linter.unusedSimpArgs false

/-- How a round may be left. -/
def roundEnd (I : Nat → World → Prop) (Ix : Code → World → Prop) (k : Nat) (W : World) : Exit → Act → World → Prop
  | .normal, _, W' => KeepsOthers W W' ∧ I (k + 1) W'
  | .ret, _, W' => KeepsOthers W W' ∧ Ix .ret W'
  | .exit id, _, W' => KeepsOthers W W' ∧ Ix (.exit id) W'
  | .goto t, _, W' => KeepsOthers W W' ∧ Ix (.goto t) W'
  | .panic _, _, _ => False
  | .outgrown, _, _ => False
/-- What bears the turn of what is no cells, from B on, and new blocks. -/
def Bears (B : Nat) (I : World → Prop) : Prop :=
  ∀ W W' row, I W → W.grownBy W' row → (∀ r, row = some r → B ≤ r ∧ ∃ o : Obj, W.heap[r]? = some o ∧ o.isCells = false) → I W'
theorem Bears.putObj {B : Nat} {I : World → Prop} (h : Bears B I) {W : World} {l : Nat} {o : Obj} (o' : Obj) (hs : I W) (hB : B ≤ l) (hl : W.heap[l]? = some o) (ho : o.isCells = false) : I (W.putObj l o') :=
  h W _ (some l) hs (grownBy_putObj' W l o') (fun r e => by cases e; exact ⟨hB, o, hl, ho⟩)
theorem Bears.alloc {B : Nat} {I : World → Prop} (h : Bears B I) {W : World} (o : Obj) (hs : I W) : I (W.alloc o) :=
  h W _ none hs (World.grownBy_alloc W o none) (fun r e => by cases e)
theorem Bears.below {B : Nat} {I : World → Prop} (h : Bears B I) {W W' : World} (hs : I W) (hb : Below W.heap.size W W') : I W' :=
  h W W' none hs ⟨hb.os, hb.tape, hb.output, hb.size, fun k hk _ => hb.block k hk⟩ (fun r e => by cases e)
set_option maxRecDepth 100000 in
theorem wpIn_range_seq2 {P : Program} {n : Nat} {β : Type} {g : Operand} {ps : Array Tmp} {assign body : Code} {Q : Exit → Act → World → Prop} {a : Act} {w : World} (h1 : 1 ≤ n)
    {gf : Nat} {lb : Array Value} (hg : a.eval g = .func (.func gf) #[] lb) (eg : ∀ args w, (callFunc gf args).run P w = .ok (.enter gf args) w)
    (encs : β → Array Value) (hps : ∀ x, (encs x).size = ps.size) (Good : Nat → β → World → Prop) (N : Nat) (K0 : Nat → World → Prop)
    (I : Nat → World → Prop) (Ix : Code → World → Prop) (hI : ∀ k, Bears w.heap.size (I k)) (hIx : ∀ c, Bears w.heap.size (Ix c)) (hG : ∀ k x, Bears w.heap.size (Good k x)) (hK : ∀ k W, I k W → K0 k W) (h0 : I 0 w)
    (hseq : ∀ (l : Nat) (J : Nat → World → Prop) (Jx : World → Prop) (W : World), (∀ k W, J k W → K0 k W) → (∀ k W W', J k W → Below W.heap.size W W' → J k W') →
      (∀ k x W1, k < N → J k W1 → Good k x W1 → YieldAt Fence.wide (n - 1 - 1) P l (encs x) W1 fun e W' => (e = .returned (.bool true) ∧ J (k + 1) W') ∨ (e = .returned (.bool false) ∧ Jx W')) →
      J 0 W → CallsIn Fence.wide (n - 1) P gf (#[.func (.yield l) #[] #[]] ++ lb) W fun e W' => (∃ v, e = .returned v) ∧ (J N W' ∨ Jx W'))
    (a₁ : β → Act)
    (hassign : ∀ (l : Nat) (x : β) (W : World) (K : Act → World → Prop), K (a₁ x) W →
      assign.wpIn (Fence.wide.inRound l) (n - 1 - 1) P (Exit.then K (fun _ _ _ => False)) { tmps := (ps.zip (encs x)).foldl (fun t (p, v) => t.setIfInBounds p v) a.tmps, defers := [] } W)
    (hbody : ∀ (l : Nat) (k : Nat) (x : β) (W : World), k < N → I k W → Good k x W → body.wpIn (Fence.wide.inRound l) (n - 1 - 1) P (roundEnd I Ix k W) (a₁ x) W)
    (hdone : ∀ (D : Nat) (W : World), w.heap.size ≤ D → I N W → W.heap[D]? = some (.deferred (some [])) → Q .normal { a with defers := { target := .collected D, args := #[] } :: a.defers } W)
    (hstop : ∀ (D : Nat) (c : Code) (W : World), w.heap.size ≤ D → Ix c W → W.heap[D]? = some (.deferred (some [])) → c.wpIn Fence.wide n P Q { a with defers := { target := .collected D, args := #[] } :: a.defers } W) :
    (Code.rangeFunc g ps assign body).wpIn Fence.wide n P Q a w := by
  refine wpIn_rangeFunc ?_
  intro fn hfn
  rw [show Fence.wide.round = none from rfl]
  obtain ⟨rec, hrec⟩ : ∃ rec : LoopState → Option Code → Loop, rec = fun st pe => { state := st, pending := pe, fn, tmps := a.tmps, params := ps, assign, body, defers := w.heap.size } := ⟨_, rfl⟩
  obtain ⟨W1, hW1⟩ : ∃ W1, (w.alloc (.deferred (some []))).alloc (.loop (rec .ready none)) = W1 := ⟨_, rfl⟩
  have hL1 : W1.heap[w.heap.size + 1]? = some (.loop (rec .ready none)) := by
    rw [← hW1]; have := World.alloc_heap_new (w.alloc (.deferred (some []))) (.loop (rec .ready none)); rwa [World.size_alloc] at this
  have hK1 : W1.heap[w.heap.size]? = some (.deferred (some [])) := by
    rw [← hW1]; exact (Below.heap_alloc _ _ _ (by simp)).trans (World.alloc_heap_new w _)
  have hI1 : I 0 W1 := by rw [← hW1]; exact (hI 0).alloc _ ((hI 0).alloc _ h0)
  refine ⟨w.heap.size + 1, [{ target := .collected w.heap.size, args := #[] }], W1, { target := .fn (.func gf) lb, args := #[.func (.yield (w.heap.size + 1)) #[] #[]] }, W1, gf,
    #[.func (.yield (w.heap.size + 1)) #[] #[]] ++ lb, W1, ?_, ?_, fun _ _ => trivial, ?_, fun _ => h1, ?_⟩
  · rw [← hW1, hrec]; exact run_enterLoop_outer _ _ _ _ _
  · simp only [resolve, hg]
    simp [go_sem]
  · simp [invoke, go_sem, eg]
  · refine (hseq (w.heap.size + 1)
      (fun k W => I k W ∧ W.heap[w.heap.size + 1]? = some (.loop (rec .ready none)) ∧ W.heap[w.heap.size]? = some (.deferred (some [])))
      (fun W => ∃ c, Ix c W ∧ W.heap[w.heap.size + 1]? = some (.loop (rec .done (some c))) ∧ W.heap[w.heap.size]? = some (.deferred (some [])))
      W1 (fun k W h => hK k W h.1)
      (fun k W W' h hb => ⟨(hI k).below h.1 hb, (hb.block _ (Array.getElem?_eq_some_iff.1 h.2.1).1).trans h.2.1, (hb.block _ (Array.getElem?_eq_some_iff.1 h.2.2).1).trans h.2.2⟩)
      ?_ ⟨hI1, hL1, hK1⟩).mono ?_
    · rintro k x W hkN ⟨hi, hl, hk⟩ hgood
      have hlt : w.heap.size + 1 < W.heap.size := (Array.getElem?_eq_some_iff.1 hl).1
      have hy := run_yield (P := P) (args := encs x) hl (by rw [hrec]; exact hps x)
      rw [hrec] at hy
      refine ⟨fn, _, assign, body, hy, roundIn_of_wpIn hfn (hassign _ x W _ ⟨_, run_beginRound hl (by rw [hrec]), ?_⟩)⟩
      have hl2 : (W.putObj (w.heap.size + 1) (.loop { rec .ready none with state := .busy })).heap[w.heap.size + 1]? = some (.loop { rec .ready none with state := .busy }) := World.putObj_heap_same hlt
      have hk2 : (W.putObj (w.heap.size + 1) (.loop { rec .ready none with state := .busy })).heap[w.heap.size]? = some (.deferred (some [])) := (World.putObj_heap_other (by omega)).trans hk
      refine wpIn_mono (hbody _ k x _ hkN ((hI k).putObj _ hi (by omega) hl rfl) ((hG k x).putObj _ hgood (by omega) hl rfl)) ?_
      have fin : ∀ (jump : Option Code) (W3 : World), KeepsOthers (W.putObj (w.heap.size + 1) (.loop { rec .ready none with state := .busy })) W3 →
          (Instr.endRound (w.heap.size + 1) jump).run P W3 = .ok (.bool jump.isNone) (W3.putObj (w.heap.size + 1) (.loop (rec (if jump.isNone then .ready else .done) jump))) ∧
          W3.heap[w.heap.size + 1]? = some (.loop { rec .ready none with state := .busy }) ∧
          (W3.putObj (w.heap.size + 1) (.loop (rec (if jump.isNone then .ready else .done) jump))).heap[w.heap.size + 1]? = some (.loop (rec (if jump.isNone then .ready else .done) jump)) ∧
          (W3.putObj (w.heap.size + 1) (.loop (rec (if jump.isNone then .ready else .done) jump))).heap[w.heap.size]? = some (.deferred (some [])) := fun jump W3 hk3 => by
        have hl3 := hk3.same _ _ hl2 rfl
        have := run_endRound (P := P) jump hl3
        rw [hrec] at this ⊢
        exact ⟨this, by rw [hrec] at hl3; exact hl3, World.putObj_heap_same (Array.getElem?_eq_some_iff.1 hl3).1, (World.putObj_heap_other (by omega)).trans (hk3.same _ _ hk2 rfl)⟩
      rintro e a3 W3 hp
      cases e with
      | normal =>
        obtain ⟨hk3, hi3⟩ := hp
        obtain ⟨hr, hl3, hl4, hk4⟩ := fin none W3 hk3
        exact ⟨_, _, hr, .inl ⟨rfl, (hI _).putObj _ hi3 (by omega) hl3 rfl, hl4, hk4⟩⟩
      | ret =>
        obtain ⟨hk3, hi3⟩ := hp
        obtain ⟨hr, hl3, hl4, hk4⟩ := fin (some .ret) W3 hk3
        exact ⟨_, _, hr, .inr ⟨rfl, .ret, (hIx _).putObj _ hi3 (by omega) hl3 rfl, hl4, hk4⟩⟩
      | exit id =>
        obtain ⟨hk3, hi3⟩ := hp
        obtain ⟨hr, hl3, hl4, hk4⟩ := fin (some (.exit id)) W3 hk3
        exact ⟨_, _, hr, .inr ⟨rfl, .exit id, (hIx _).putObj _ hi3 (by omega) hl3 rfl, hl4, hk4⟩⟩
      | goto t =>
        obtain ⟨hk3, hi3⟩ := hp
        obtain ⟨hr, hl3, hl4, hk4⟩ := fin (some (.goto t)) W3 hk3
        exact ⟨_, _, hr, .inr ⟨rfl, .goto t, (hIx _).putObj _ hi3 (by omega) hl3 rfl, hl4, hk4⟩⟩
      | panic ch => exact hp.elim
      | outgrown => exact hp.elim
    · rintro e W2 ⟨⟨v, rfl⟩, (⟨hi, hl, hk⟩ | ⟨c, hi, hl, hk⟩)⟩
      · exact ⟨none, _, by have := run_endLoop (P := P) hl (by rw [hrec]; simp); rw [hrec] at this; exact this, hdone _ _ (Nat.le_refl _) ((hI _).putObj _ hi (by omega) hl rfl) ((World.putObj_heap_other (by omega)).trans hk)⟩
      · exact ⟨some c, _, by have := run_endLoop (P := P) hl (by rw [hrec]; simp); rw [hrec] at this; exact this, hstop _ c _ (Nat.le_refl _) ((hIx c).putObj _ hi (by omega) hl rfl) ((World.putObj_heap_other (by omega)).trans hk)⟩
theorem wpIn_range_seq {P : Program} {n : Nat} {β : Type} {g : Operand} {ps : Array Tmp} {assign body : Code} {Q : Exit → Act → World → Prop} {a : Act} {w : World} (h1 : 1 ≤ n)
    {gf : Nat} {lb : Array Value} (hg : a.eval g = .func (.func gf) #[] lb) (eg : ∀ args w, (callFunc gf args).run P w = .ok (.enter gf args) w)
    (encs : β → Array Value) (hps : ∀ x, (encs x).size = ps.size) (Good : Nat → β → World → Prop) (N : Nat) (K0 : World → Prop)
    (I : Nat → World → Prop) (Ix : Code → World → Prop) (hI : ∀ k, Bears w.heap.size (I k)) (hIx : ∀ c, Bears w.heap.size (Ix c)) (hG : ∀ k x, Bears w.heap.size (Good k x)) (hK : ∀ k W, I k W → K0 W) (h0 : I 0 w)
    (hseq : ∀ (l : Nat) (J : Nat → World → Prop) (Jx : World → Prop) (W : World), (∀ k W, J k W → K0 W) → (∀ k W W', J k W → Below W.heap.size W W' → J k W') →
      (∀ k x W1, k < N → J k W1 → Good k x W1 → YieldAt Fence.wide (n - 1 - 1) P l (encs x) W1 fun e W' => (e = .returned (.bool true) ∧ J (k + 1) W') ∨ (e = .returned (.bool false) ∧ Jx W')) →
      J 0 W → CallsIn Fence.wide (n - 1) P gf (#[.func (.yield l) #[] #[]] ++ lb) W fun e W' => (∃ v, e = .returned v) ∧ (J N W' ∨ Jx W'))
    (a₁ : β → Act)
    (hassign : ∀ (l : Nat) (x : β) (W : World) (K : Act → World → Prop), K (a₁ x) W →
      assign.wpIn (Fence.wide.inRound l) (n - 1 - 1) P (Exit.then K (fun _ _ _ => False)) { tmps := (ps.zip (encs x)).foldl (fun t (p, v) => t.setIfInBounds p v) a.tmps, defers := [] } W)
    (hbody : ∀ (l : Nat) (k : Nat) (x : β) (W : World), k < N → I k W → Good k x W → body.wpIn (Fence.wide.inRound l) (n - 1 - 1) P (roundEnd I Ix k W) (a₁ x) W)
    (hdone : ∀ (D : Nat) (W : World), w.heap.size ≤ D → I N W → W.heap[D]? = some (.deferred (some [])) → Q .normal { a with defers := { target := .collected D, args := #[] } :: a.defers } W)
    (hstop : ∀ (D : Nat) (c : Code) (W : World), w.heap.size ≤ D → Ix c W → W.heap[D]? = some (.deferred (some [])) → c.wpIn Fence.wide n P Q { a with defers := { target := .collected D, args := #[] } :: a.defers } W) :
    (Code.rangeFunc g ps assign body).wpIn Fence.wide n P Q a w :=
  wpIn_range_seq2 h1 hg eg encs hps Good N (fun _ => K0) I Ix hI hIx hG hK h0 hseq a₁ hassign hbody hdone hstop
end Go.Proofs.Ythackmkdicpdeaa
namespace Go.Proofs.Ythackmkdicpdeaa
open Go.RowKit Go.Lib Go.Shelf
set_option linter.unusedVariables false
set_option linter.unusedSimpArgs false
attribute [local go_sem] alloc_drewN setCell_drewN
attribute [local go_sem] Oper.semAt_some

/-- What a round is handed: the place and a slice that reads as its indices. -/
abbrev Rnd := Nat × (Option Addr × Nat × Nat)
def rndV (x : Rnd) : Array Value := #[.int .i64 x.1, .slice x.2.1 x.2.2.1 x.2.2.2]
def RndIs (s : List Int) (k : Nat) (x : Rnd) (W : World) : Prop := x.1 = k ∧ Ls W x.2.1 x.2.2.1 x.2.2.2 (ixL s k)
set_option maxRecDepth 100000 in
set_option maxHeartbeats 800000 in
theorem allseq_in {bn bs : Nat} {so : Option Addr} {sn sc : Nat} {s : List Int} {N : Nat} (hN : szE s = N) (m l : Nat) (h1 : 1 ≤ m) (J : Nat → World → Prop) (Jx : World → Prop) (W : World)
    (hK : ∀ k W, J k W → SeqAt W bn bs so sn sc s) (hJ : ∀ k W W', J k W → Below W.heap.size W W' → J k W')
    (hY : ∀ k x W1, k < N → J k W1 → RndIs s k x W1 → YieldAt Fence.wide (m - 1) Try.prog l (rndV x) W1 fun e W' => (e = .returned (.bool true) ∧ J (k + 1) W') ∨ (e = .returned (.bool false) ∧ Jx W'))
    (h0 : J 0 W) :
    CallsIn Fence.wide m Try.prog 100 #[.func (.yield l) #[] #[], .pointer (some ⟨bn, 0, none⟩), .pointer (some ⟨bs, 0, none⟩)] W fun e W' => (∃ v, e = .returned v) ∧ (J N W' ∨ Jx W') := by
  have hNb : N ≤ 4096 := by have := szE_bd s; omega
  have r0 := (hK 0 W h0).cn
  rw [hN] at r0
  have HY := Lib.hid hY
  have HK := Lib.hid hK
  have HJ := Lib.hid hJ
  have H0 := Lib.hid h0
  have G : Hid (∀ (k : Nat), k < N → ∀ W', J k W' → Calls Try.prog 101 #[.slice so sn sc, .int .i64 k] W' (MadeL W' (ixL s k))) := by
    intro k hk W' hWk
    obtain ⟨h1, h2⟩ := szE_pos hN (by omega)
    obtain ⟨g1, g2, g3⟩ := mayE_zero h1
    have hl := (hK k W' hWk).ls
    exact indices_any hl k (by omega) (by have := hl.len; omega) (pos_all g1 (by omega))
  clear hY hK hJ h0 hN
  refine callsIn_of_wp Try.func100 rfl trivial ?_
  simp only [Try.ntmps100, List.size_toArray, List.length_cons, List.length_nil, Nat.reduceAdd, Nat.reduceSub, Array.replicate_succ, Array.replicate_zero, List.push_toArray, List.append_toArray, List.nil_append, List.cons_append]
  gi_wp2
  gi_loopw [6] (fun i wr => ∃ k : Nat, k ≤ N ∧ i = .int .i64 k ∧ Hid (J k wr)) (fun i _ => N - (RowKit.intOf i).toNat)
  case atStart => exact ⟨0, Nat.zero_le _, rfl, H0⟩
  case round =>
    obtain ⟨k, hk, rfl, HK0⟩ := hrel
    by_cases hlt : k < N
    · have hlt' : (k : Int) < N := by omega
      have r1 := (HK.out k wr HK0.out).cs
      gi_wp2_with (refine ⟨trivial, ?_⟩; gi_at_call 101; refine (callsIn_wide.2 (G.out k hlt wr HK0.out)).mono ?_; rintro e w1 ⟨ao, n, c, rfl, hL, hO, hB⟩)
      have HJ1 := Lib.hid (HJ.out k wr w1 HK0.out hB)
      obtain ⟨fn, tmps, assign, body, hy, hR⟩ := HY.out k (k, ao, n, c) w1 hlt HJ1.out ⟨rfl, hL⟩
      simp only [rndV] at hy
      have HR := Lib.hid hR
      clear hR hL hO hB r1
      rw [hy]
      simp only [Oper.uponIn]
      refine ⟨fun _ => h1, HR.out.mono ?_⟩
      rintro e w2 (⟨rfl, hJ2⟩ | ⟨rfl, hJx⟩)
      · have HJ2 := Lib.hid hJ2
        clear hJ2
        gi_wp2
        go_roundw
        case rel => exact ⟨k + 1, by omega, by go_num, HJ2⟩
        case measure => simp [RowKit.intOf]; omega
      · have HJx := Lib.hid hJx
        clear hJx
        gi_wp2
        (try simp only [Exit.inBlock, Exit.then])
        refine bodyPost_ret (results_none rfl _ _ _) rfl ?_
        exact ⟨⟨_, rfl⟩, .inr HJx.out⟩
    · obtain rfl : k = N := by omega
      have hge : (k : Int) ≤ k := Int.le_refl _
      gi_wp2
      go_end0
      exact ⟨⟨_, rfl⟩, .inl HK0.out⟩
theorem ls_bears {ao : Option Addr} {n c : Nat} {zs : List Int} (B : Nat) : Bears B (fun W => Ls W ao n c zs) := by
  intro W W' row h hg hr
  refine ⟨h.len, h.cap, h.big, h.top, fun h0 => ?_, h.rng⟩
  obtain ⟨b, off, e, hlt, hc⟩ := h.mem h0
  exact ⟨b, off, e, Nat.lt_of_lt_of_le hlt hg.size, fun i hi => cell_kept (hc i hi) hg (fun r e => (hr r e).2)⟩
theorem cell_bears (B : Nat) (p : Addr) (v : Value) : Bears B (fun W => W.cell? p = some v) :=
  fun W W' row h hg hr => cell_kept h hg (fun r e => (hr r e).2)
theorem frozen_bears (B : Nat) (p : Addr) (v : Value) (b : Bool) : Bears B (fun W => W.cell? p = some v ∧ W.frozen? p = b) :=
  fun W W' row h hg hr => ⟨cell_kept h.1 hg (fun r e => (hr r e).2), (frozen_kept h.1 hg (fun r e => (hr r e).2)).trans h.2⟩
theorem below_bears {n0 B : Nat} {w0 : World} (hn : n0 ≤ w0.heap.size) (hB : n0 ≤ B) : Bears B (fun W => Below n0 w0 W) :=
  fun W W' row hs hg hr => hs.grown hg (Nat.le_trans hn hs.size) (fun k e => Nat.le_trans hB (hr k e).1)
theorem Bears.and {B : Nat} {I I' : World → Prop} (h : Bears B I) (h' : Bears B I') : Bears B (fun W => I W ∧ I' W) := fun W W' row hs hg hr => ⟨h W W' row hs.1 hg hr, h' W W' row hs.2 hg hr⟩
theorem Bears.const (B : Nat) (p : Prop) : Bears B (fun _ => p) := fun _ _ _ h _ _ => h
theorem seqAt_bears {bn bs : Nat} {so : Option Addr} {sn sc : Nat} {s : List Int} (B : Nat) : Bears B (fun W => SeqAt W bn bs so sn sc s) := by
  intro W W' row h hg hr
  exact ⟨cell_kept h.cn hg (fun r e => (hr r e).2), cell_kept h.cs hg (fun r e => (hr r e).2), ls_bears B W W' row h.ls hg hr, Nat.lt_of_lt_of_le h.ln hg.size, Nat.lt_of_lt_of_le h.lb hg.size⟩
theorem rnd_bears {s : List Int} {k : Nat} {x : Rnd} (B : Nat) : Bears B (RndIs s k x) := fun W W' row h hg hr => ⟨h.1, ls_bears B W W' row h.2 hg hr⟩
theorem keeps_of_below {W W' : World} (h : Below W.heap.size W W') : KeepsOthers W W' := ⟨h.size, fun k o hk _ => (h.block k (Array.getElem?_eq_some_iff.1 hk).1).trans hk⟩
end Go.Proofs.Ythackmkdicpdeaa

/- A range over a function whose rounds are handed memory of their own: rounds may keep it and write into it; ways out of a function that holds one. -/
import Derived.Test.YthackmkdicpdeaaRangeAll
import Derived.Test.YthackmkdicpdeaaMerge
namespace Go.Proofs.Ythackmkdicpdeaa
open Go.RowKit Go.Lib Go.Shelf
set_option linter.unusedVariables false
set_option linter.unusedSimpArgs false
attribute [local go_sem] alloc_drewN setCell_drewN
attribute [local go_sem] Oper.semAt_some

/-- What the body of a function that holds a range over a function must achieve; no panic leaves it. -/
def postM (P : Program) (fn : Func) (R : Ending → World → Prop) : Exit → Act → World → Prop
  | .normal, a, w | .ret, a, w => LeavesInM Fence.wide 6 P fn a.tmps R a.defers .returning w
  | .panic _, _, _ => False
  | .outgrown, _, w => R .outgrown w
  | _, _, _ => False
theorem calls_marks {P : Program} {f : FuncId} {fn : Func} {c : Code} {args : Array Value} {w : World} {R : Ending → World → Prop} (hf : P.funcs[f]? = some fn) (hb : fn.body = some c)
    (h : c.wp P (postM P fn R) { tmps := args ++ Array.replicate (fn.ntmps - args.size) undef, defers := [] } w) : Calls P f args w R := by
  refine (callsIn_wide (n := 6)).1 (callsIn_of_wp_marks hf hb trivial (wpIn_wide.2 (wp_mono h ?_)) rfl)
  rintro e a' w' hp
  cases e with
  | normal => exact hp
  | ret => exact hp
  | panic ch => exact hp.elim
  | outgrown => exact hp
  | exit id => exact hp.elim
  | goto l => exact hp.elim
theorem marks_ret0 {P : Program} {fn : Func} {R : Ending → World → Prop} {a : Act} {w : World} {v : Value} (hd : a.defers = []) (hr : (results fn a.tmps).run P w = .ok v w) (hR : R (.returned v) w) : postM P fn R .ret a w := by
  show LeavesInM _ _ _ _ _ _ _ _ _
  rw [hd]
  exact ⟨v, hr, hR⟩
theorem marks_ret1 {P : Program} {fn : Func} {R : Ending → World → Prop} {a : Act} {w : World} {v : Value} {D : Nat} (hd : a.defers = [{ target := .collected D, args := #[] }]) (hk : w.heap[D]? = some (.deferred (some [])))
    (hr : (results fn a.tmps).run P (w.putObj D (.deferred none)) = .ok v (w.putObj D (.deferred none))) (hR : R (.returned v) (w.putObj D (.deferred none))) : postM P fn R .ret a w := by
  show LeavesInM _ _ _ _ _ _ _ _ _
  rw [hd]
  exact ⟨by simp, .inl ⟨D, _, rfl, run_takeDeferred hk, v, hr, hR⟩⟩
set_option maxRecDepth 100000 in
theorem wpIn_range_own {P : Program} {n : Nat} {β : Type} {g : Operand} {ps : Array Tmp} {assign body : Code} {Q : Exit → Act → World → Prop} {a : Act} {w : World} (h1 : 1 ≤ n)
    {gf : Nat} {lb : Array Value} (hg : a.eval g = .func (.func gf) #[] lb) (eg : ∀ args w, (callFunc gf args).run P w = .ok (.enter gf args) w)
    (encs : β → Array Value) (hps : ∀ x, (encs x).size = ps.size) (Good : Nat → β → World → Prop) (N : Nat) (K0 : Nat → World → Prop)
    (I : Nat → World → Prop) (Ix : Code → World → Prop) (hI : ∀ k, Bears w.heap.size (I k)) (hIx : ∀ c, Bears w.heap.size (Ix c)) (hG : ∀ k x, Bears w.heap.size (Good k x)) (hK : ∀ k W, I k W → K0 k W) (h0 : I 0 w)
    (hseq : ∀ (l : Nat) (J : Nat → World → Prop) (Jx : World → Prop) (W : World), (∀ k W, J k W → K0 k W) → (∀ k W W', J k W → Below W.heap.size W W' → J k W') →
      (∀ k x W1, k < N → J k W1 → Good k x W1 → YieldAt Fence.wide (n - 1 - 1) P l (encs x) W1 fun e W' => (e = .returned (.bool true) ∧ J (k + 1) W') ∨ (e = .returned (.bool false) ∧ Jx W')) →
      J 0 W → CallsIn Fence.wide (n - 1) P gf (#[.func (.yield l) #[] #[]] ++ lb) W fun e W' => (∃ v, e = .returned v) ∧ (J N W' ∨ Jx W'))
    (a₁ : β → Act)
    (hassign : ∀ (l : Nat) (x : β) (W : World) (K : Act → World → Prop), K (a₁ x) W →
      assign.wpIn (Fence.wide.inRound l) (n - 1 - 1) P (Exit.then K (fun _ _ _ => False)) { tmps := (ps.zip (encs x)).foldl (fun t (p, v) => t.setIfInBounds p v) a.tmps, defers := [] } W)
    (hbody : ∀ (l : Nat) (k : Nat) (x : β) (W : World), k < N → I k W → Good k x W → body.wpIn (Fence.wide.inRound l) (n - 1 - 1) P (roundEnd I Ix k W) (a₁ x) W)
    (hdone : ∀ (D : Nat) (W : World), w.heap.size ≤ D → I N W → W.heap[D]? = some (.deferred (some [])) → Q .normal { a with defers := { target := .collected D, args := #[] } :: a.defers } W)
    (hstop : ∀ (D : Nat) (c : Code) (W : World), w.heap.size ≤ D → Ix c W → W.heap[D]? = some (.deferred (some [])) → c.wpIn Fence.wide n P Q { a with defers := { target := .collected D, args := #[] } :: a.defers } W) :
    (Code.rangeFunc g ps assign body).wpIn Fence.wide n P Q a w := by
  refine wpIn_rangeFunc ?_
  intro fn hfn
  rw [show Fence.wide.round = none from rfl]
  obtain ⟨rec, hrec⟩ : ∃ rec : LoopState → Option Code → Loop, rec = fun st pe => { state := st, pending := pe, fn, tmps := a.tmps, params := ps, assign, body, defers := w.heap.size } := ⟨_, rfl⟩
  obtain ⟨W1, hW1⟩ : ∃ W1, (w.alloc (.deferred (some []))).alloc (.loop (rec .ready none)) = W1 := ⟨_, rfl⟩
  have hL1 : W1.heap[w.heap.size + 1]? = some (.loop (rec .ready none)) := by
    rw [← hW1]; have := World.alloc_heap_new (w.alloc (.deferred (some []))) (.loop (rec .ready none)); rwa [World.size_alloc] at this
  have hK1 : W1.heap[w.heap.size]? = some (.deferred (some [])) := by
    rw [← hW1]; exact (Below.heap_alloc _ _ _ (by simp)).trans (World.alloc_heap_new w _)
  have hI1 : I 0 W1 := by rw [← hW1]; exact (hI 0).alloc _ ((hI 0).alloc _ h0)
  refine ⟨w.heap.size + 1, [{ target := .collected w.heap.size, args := #[] }], W1, { target := .fn (.func gf) lb, args := #[.func (.yield (w.heap.size + 1)) #[] #[]] }, W1, gf,
    #[.func (.yield (w.heap.size + 1)) #[] #[]] ++ lb, W1, ?_, ?_, fun _ _ => trivial, ?_, fun _ => h1, ?_⟩
  · rw [← hW1, hrec]; exact run_enterLoop_outer _ _ _ _ _
  · simp only [resolve, hg]
    simp [go_sem]
  · simp [invoke, go_sem, eg]
  · refine (hseq (w.heap.size + 1)
      (fun k W => I k W ∧ W.heap[w.heap.size + 1]? = some (.loop (rec .ready none)) ∧ W.heap[w.heap.size]? = some (.deferred (some [])))
      (fun W => ∃ c, Ix c W ∧ W.heap[w.heap.size + 1]? = some (.loop (rec .done (some c))) ∧ W.heap[w.heap.size]? = some (.deferred (some [])))
      W1 (fun k W h => hK k W h.1)
      (fun k W W' h hb => ⟨(hI k).below h.1 hb, (hb.block _ (Array.getElem?_eq_some_iff.1 h.2.1).1).trans h.2.1, (hb.block _ (Array.getElem?_eq_some_iff.1 h.2.2).1).trans h.2.2⟩)
      ?_ ⟨hI1, hL1, hK1⟩).mono ?_
    · rintro k x W hkN ⟨hi, hl, hk⟩ hgood
      have hlt : w.heap.size + 1 < W.heap.size := (Array.getElem?_eq_some_iff.1 hl).1
      have hy := run_yield (P := P) (args := encs x) hl (by rw [hrec]; exact hps x)
      rw [hrec] at hy
      refine ⟨fn, _, assign, body, hy, roundIn_of_wpIn hfn (hassign _ x W _ ⟨_, run_beginRound hl (by rw [hrec]), ?_⟩)⟩
      have hl2 : (W.putObj (w.heap.size + 1) (.loop { rec .ready none with state := .busy })).heap[w.heap.size + 1]? = some (.loop { rec .ready none with state := .busy }) := World.putObj_heap_same hlt
      have hk2 : (W.putObj (w.heap.size + 1) (.loop { rec .ready none with state := .busy })).heap[w.heap.size]? = some (.deferred (some [])) := (World.putObj_heap_other (by omega)).trans hk
      refine wpIn_mono (hbody _ k x _ hkN ((hI k).putObj _ hi (by omega) hl rfl) ((hG k x).putObj _ hgood (by omega) hl rfl)) ?_
      have fin : ∀ (jump : Option Code) (W3 : World), KeepsOthers (W.putObj (w.heap.size + 1) (.loop { rec .ready none with state := .busy })) W3 →
          (Instr.endRound (w.heap.size + 1) jump).run P W3 = .ok (.bool jump.isNone) (W3.putObj (w.heap.size + 1) (.loop (rec (if jump.isNone then .ready else .done) jump))) ∧
          W3.heap[w.heap.size + 1]? = some (.loop { rec .ready none with state := .busy }) ∧
          (W3.putObj (w.heap.size + 1) (.loop (rec (if jump.isNone then .ready else .done) jump))).heap[w.heap.size + 1]? = some (.loop (rec (if jump.isNone then .ready else .done) jump)) ∧
          (W3.putObj (w.heap.size + 1) (.loop (rec (if jump.isNone then .ready else .done) jump))).heap[w.heap.size]? = some (.deferred (some [])) := fun jump W3 hk3 => by
        have hl3 := hk3.same _ _ hl2 rfl
        have := run_endRound (P := P) jump hl3
        rw [hrec] at this ⊢
        exact ⟨this, by rw [hrec] at hl3; exact hl3, World.putObj_heap_same (Array.getElem?_eq_some_iff.1 hl3).1, (World.putObj_heap_other (by omega)).trans (hk3.same _ _ hk2 rfl)⟩
      rintro e a3 W3 hp
      cases e with
      | normal =>
        obtain ⟨hk3, hi3⟩ := hp
        obtain ⟨hr, hl3, hl4, hk4⟩ := fin none W3 hk3
        exact ⟨_, _, hr, .inl ⟨rfl, (hI _).putObj _ hi3 (by omega) hl3 rfl, hl4, hk4⟩⟩
      | ret =>
        obtain ⟨hk3, hi3⟩ := hp
        obtain ⟨hr, hl3, hl4, hk4⟩ := fin (some .ret) W3 hk3
        exact ⟨_, _, hr, .inr ⟨rfl, .ret, (hIx _).putObj _ hi3 (by omega) hl3 rfl, hl4, hk4⟩⟩
      | exit id =>
        obtain ⟨hk3, hi3⟩ := hp
        obtain ⟨hr, hl3, hl4, hk4⟩ := fin (some (.exit id)) W3 hk3
        exact ⟨_, _, hr, .inr ⟨rfl, .exit id, (hIx _).putObj _ hi3 (by omega) hl3 rfl, hl4, hk4⟩⟩
      | goto t =>
        obtain ⟨hk3, hi3⟩ := hp
        obtain ⟨hr, hl3, hl4, hk4⟩ := fin (some (.goto t)) W3 hk3
        exact ⟨_, _, hr, .inr ⟨rfl, .goto t, (hIx _).putObj _ hi3 (by omega) hl3 rfl, hl4, hk4⟩⟩
      | panic ch => exact hp.elim
      | outgrown => exact hp.elim
    · rintro e W2 ⟨⟨v, rfl⟩, (⟨hi, hl, hk⟩ | ⟨c, hi, hl, hk⟩)⟩
      · exact ⟨none, _, by have := run_endLoop (P := P) hl (by rw [hrec]; simp); rw [hrec] at this; exact this, hdone _ _ (Nat.le_refl _) ((hI _).putObj _ hi (by omega) hl rfl) ((World.putObj_heap_other (by omega)).trans hk)⟩
      · exact ⟨some c, _, by have := run_endLoop (P := P) hl (by rw [hrec]; simp); rw [hrec] at this; exact this, hstop _ c _ (Nat.le_refl _) ((hIx c).putObj _ hi (by omega) hl rfl) ((World.putObj_heap_other (by omega)).trans hk)⟩
set_option maxRecDepth 100000 in
set_option maxHeartbeats 800000 in
theorem allseq_own {bn bs : Nat} {so : Option Addr} {sn sc : Nat} {s : List Int} {N : Nat} (hN : szE s = N) (m l : Nat) (h1 : 1 ≤ m) (J : Nat → World → Prop) (Jx : World → Prop) (W : World) (K0 : Nat → World → Prop) (Good : Nat → Rnd → World → Prop)
    (hS : ∀ k W, K0 k W → SeqAt W bn bs so sn sc s) (hGd : ∀ k x W0 W1, k < N → K0 k W0 → x.1 = k → Ls W1 x.2.1 x.2.2.1 x.2.2.2 (ixL s k) → W1.ownsRow W0.heap.size 3 1 (.slice x.2.1 x.2.2.1 x.2.2.2) x.2.2.1 ((ixL s k).map (Value.int .i64)) → Below W0.heap.size W0 W1 → Good k x W1)
    (hK0 : ∀ k W, J k W → K0 k W) (hJ : ∀ k W W', J k W → Below W.heap.size W W' → J k W')
    (hY : ∀ k x W1, k < N → J k W1 → Good k x W1 → YieldAt Fence.wide (m - 1) Try.prog l (rndV x) W1 fun e W' => (e = .returned (.bool true) ∧ J (k + 1) W') ∨ (e = .returned (.bool false) ∧ Jx W'))
    (h0 : J 0 W) :
    CallsIn Fence.wide m Try.prog 100 #[.func (.yield l) #[] #[], .pointer (some ⟨bn, 0, none⟩), .pointer (some ⟨bs, 0, none⟩)] W fun e W' => (∃ v, e = .returned v) ∧ (J N W' ∨ Jx W') := by
  have hK : ∀ k W, J k W → SeqAt W bn bs so sn sc s := fun k W h => hS k W (hK0 k W h)
  have HK0h := Lib.hid hK0
  have HGD := Lib.hid hGd
  have hNb : N ≤ 4096 := by have := szE_bd s; omega
  have r0 := (hK 0 W h0).cn
  rw [hN] at r0
  have HY := Lib.hid hY
  have HK := Lib.hid hK
  have HJ := Lib.hid hJ
  have H0 := Lib.hid h0
  have G : Hid (∀ (k : Nat), k < N → ∀ W', J k W' → Calls Try.prog 101 #[.slice so sn sc, .int .i64 k] W' (MadeL W' (ixL s k))) := by
    intro k hk W' hWk
    obtain ⟨h1, h2⟩ := szE_pos hN (by omega)
    obtain ⟨g1, g2, g3⟩ := mayE_zero h1
    have hl := (hK k W' hWk).ls
    exact indices_any hl k (by omega) (by have := hl.len; omega) (pos_all g1 (by omega))
  clear hY hK hJ h0 hN hK0 hGd hS
  refine callsIn_of_wp Try.func100 rfl trivial ?_
  simp only [Try.ntmps100, List.size_toArray, List.length_cons, List.length_nil, Nat.reduceAdd, Nat.reduceSub, Array.replicate_succ, Array.replicate_zero, List.push_toArray, List.append_toArray, List.nil_append, List.cons_append]
  gi_wp2
  gi_loopw [6] (fun i wr => ∃ k : Nat, k ≤ N ∧ i = .int .i64 k ∧ Hid (J k wr)) (fun i _ => N - (RowKit.intOf i).toNat)
  case atStart => exact ⟨0, Nat.zero_le _, rfl, H0⟩
  case round =>
    obtain ⟨k, hk, rfl, HK0⟩ := hrel
    by_cases hlt : k < N
    · have hlt' : (k : Int) < N := by omega
      have r1 := (HK.out k wr HK0.out).cs
      gi_wp2_with (refine ⟨trivial, ?_⟩; gi_at_call 101; refine (callsIn_wide.2 (G.out k hlt wr HK0.out)).mono ?_; rintro e w1 ⟨ao, n, c, rfl, hL, hO, hB⟩)
      have HJ1 := Lib.hid (HJ.out k wr w1 HK0.out hB)
      obtain ⟨fn, tmps, assign, body, hy, hR⟩ := HY.out k (k, ao, n, c) w1 hlt HJ1.out (HGD.out k (k, ao, n, c) wr w1 hlt (HK0h.out k wr HK0.out) rfl hL hO hB)
      simp only [rndV] at hy
      have HR := Lib.hid hR
      clear hR hL hO hB r1
      rw [hy]
      simp only [Oper.uponIn]
      refine ⟨fun _ => h1, HR.out.mono ?_⟩
      rintro e w2 (⟨rfl, hJ2⟩ | ⟨rfl, hJx⟩)
      · have HJ2 := Lib.hid hJ2
        clear hJ2
        gi_wp2
        go_roundw
        case rel => exact ⟨k + 1, by omega, by go_num, HJ2⟩
        case measure => simp [RowKit.intOf]; omega
      · have HJx := Lib.hid hJx
        clear hJx
        gi_wp2
        (try simp only [Exit.inBlock, Exit.then])
        refine bodyPost_ret (results_none rfl _ _ _) rfl ?_
        exact ⟨⟨_, rfl⟩, .inr HJx.out⟩
    · obtain rfl : k = N := by omega
      have hge : (k : Int) ≤ k := Int.le_refl _
      gi_wp2
      go_end0
      exact ⟨⟨_, rfl⟩, .inl HK0.out⟩

/-- What is held bears the turn of what is no cells. -/
theorem hold_bears {base : Nat} {R : Nat × Nat × Nat → Rw} (B : Nat) : Bears B (fun W => Hold base W R) := by
  intro W W' row h hg hr
  refine ⟨fun t => ?_, h.dis, Nat.le_trans h.base hg.size⟩
  refine World.ownsRow.kept (h.own t) hg ?_
  cases hv : (R t).v.ownBlock with
  | none => exact .inl rfl
  | some g =>
    right
    intro e
    obtain ⟨_, o, ho, hc⟩ := hr g e.symm
    have hown := h.own t
    obtain ⟨h1, h2 | ⟨g', cap, cur, hv', hg', hh, hrest⟩⟩ := hown
    · rw [h2.1] at hv; cases hv
    · rw [hv'] at hv
      simp only [Value.ownBlock, Option.some.injEq] at hv
      subst hv
      rw [hh] at ho
      cases ho
      cases hc
theorem hold_putObj {base : Nat} {W : World} {R : Nat × Nat × Nat → Rw} (h : Hold base W R) {D : Nat} {o : Obj} (o' : Obj) (ho : W.heap[D]? = some o) (hc : o.isCells = false) : Hold base (W.putObj D o') R :=
  hold_bears 0 W _ (some D) h (grownBy_putObj' W D o') (fun r e => by cases e; exact ⟨Nat.zero_le _, o, ho, hc⟩)
theorem keeps_of_grown {w w' : World} {row : Option Nat} (h : w.grownBy w' row) (hr : ∀ g, row = some g → ∃ o : Obj, w.heap[g]? = some o ∧ o.isCells = true) : KeepsOthers w w' := by
  refine ⟨h.size, fun k o hk ho => ?_⟩
  have hlt := (Array.getElem?_eq_some_iff.1 hk).1
  rw [h.block k hlt (fun e => by obtain ⟨o', ho', hc⟩ := hr k e.symm; rw [hk] at ho'; cases ho'; rw [ho] at hc; cases hc)]
  exact hk
theorem own_cells {r : Rw} {w : World} {base g : Nat} (h : r.own w base) (hg : r.v.ownBlock = some g) : ∃ o : Obj, w.heap[g]? = some o ∧ o.isCells = true := by
  obtain ⟨h1, h2 | ⟨g', cap, cur, hv', hg', hh, hrest⟩⟩ := h
  · rw [h2.1] at hg; cases hg
  · rw [hv'] at hg
    simp only [Value.ownBlock, Option.some.injEq] at hg
    subst hg
    exact ⟨_, hh, rfl⟩
/-- append to a row that is held, within a fence. -/
theorem Hold.wpListIn_app {base : Nat} {w : World} {R : Nat × Nat × Nat → Rw} {F : Fence} {nF : Nat} {P : Program} (h : Hold base w R) {ops : Array Oper} {rest : List Oper} {o : Oper} {a : Act} {Q : Exit → Act → World → Prop} (hgd : o.guard = none) (s x : Operand) (t : TypeId)
    (ho : o.op = .call { callee := .builtin .append, args := #[s, x], argTypes := #[t, t] })
    (tg : Nat × Nat × Nat) (e : TypeId) (i : TypeInfo) (z : Value) (size bytes : Nat) (ht : P.underlying t = some (.slice e)) (hi : P.info? e = some i) (hz : i.zero = some z)
    (hsize : i.size = size) (hby : i.bytes = bytes) (hzs : z.cells.size = size) (hsz : 0 < size)
    {ao : Option Addr} {n c : Nat} {xs : List Value} (hr : R tg = ⟨e, size, ao, n, c, xs⟩) (hs : a.eval s = .slice ao n c)
    (ad : Addr) (m c' : Nat) (hx : a.eval x = .slice (some ad) m c') (news : List Value) (hl : news.length = m * size) (hnews : ∀ j u, news[j]? = some u → w.cell? (ad.add j) = some u) (h1 : ∀ u ∈ news, u.oneCell' = true)
    (h63 : n + m ≤ maxLen) (hbytes : (n + m) * bytes ≤ 140737488355328)
    (hk : ∀ bo d w', Hold base w' (updR R tg ⟨e, size, bo, n + m, d, xs ++ news⟩) → Below base w w' → KeepsOthers w w' → wpListIn F nF P ops Q rest (a.put o.dst (.slice bo (n + m) d)) w') : wpListIn F nF P ops Q (o :: rest) a w := by
  refine wpListIn_plain hgd fun K hK => ?_
  have hown := h.own tg
  have hown' := hown
  rw [hr] at hown
  obtain ⟨v', w', g1, g2, g3, g4, g5⟩ := Go.run_append_own_at (P := P) w base t o.type e i z size bytes ht hi hz hsize hby hzs hsz _ n xs hown ad m c' news hl hnews h1 h63 hbytes h.base
  obtain ⟨bo, d, rfl, hf⟩ := own_form' g2
  have hH := h.grow tg (r := ⟨e, size, bo, n + m, d, xs ++ news⟩) g2 (by rw [hr]; exact g3) (fun g hg => by
    have hg' : (Value.slice bo (n + m) d).ownBlock = some g := hg
    rcases g5 with g5 | g5
    · left; rw [hr]; show (Value.slice ao n c).ownBlock = some g; rw [← hg']; exact g5.symm
    · right; rw [hg'] at g5; cases g5; exact Nat.le_refl _)
  have g1' : (Builtin.append_ #[t, t] o.type #[.slice ao n c, .slice (some ad) m c']).run P w = .ok (.slice bo (n + m) d) w' := g1
  unfold Oper.wpIn
  refine ⟨by simp [Oper.about, ho, resolve, Target.leads, Sem.run_pure], ?_⟩
  rw [Oper.semAt_plain F _ _ (by rw [ho]; intro c hc'; cases hc')]
  simp [execOp, ho, resolve, invoke, builtin, hs, hx, g1', Result.andThen]
  refine hK _ _ (hk bo d w' hH ((Below.refl _ _).grown g3 h.base fun k hk => (Rw.own.lt hown hk).1) (keeps_of_grown g3 fun g hg => own_cells hown' (by rw [hr]; exact hg)))
end Go.Proofs.Ythackmkdicpdeaa

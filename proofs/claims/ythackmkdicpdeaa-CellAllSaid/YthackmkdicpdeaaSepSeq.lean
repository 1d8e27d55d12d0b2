/- Parts of memory in the rounds of a range over a function. -/
import Derived.Test.YthackmkdicpdeaaSep3
import Derived.Test.YthackmkdicpdeaaRangeOwn
import Derived.Test.YthackmkdicpdeaaRoundPlain
namespace Go.Proofs.Ythackmkdicpdeaa
open Go.RowKit Go.Lib Go.Shelf
set_option linter.unusedVariables false
set_option linter.unusedSimpArgs false
theorem Pt.turn (A : Pt) {W W' : World} {F : Nat → Prop} {row : Option Nat} (h : A.P W F) (hg : W.grownBy W' row) (hr : ∀ r, row = some r → ∃ o : Obj, W.heap[r]? = some o ∧ o.isCells = false) : A.P W' F := by
  refine A.st W W' F h hg.size fun k hk => hg.block k (A.lt W F k h hk) fun e => ?_
  obtain ⟨o, ho, hc⟩ := A.cl W F k h hk
  obtain ⟨o', ho', hc'⟩ := hr k e.symm
  rw [ho] at ho'
  cases ho'
  rw [hc] at hc'
  cases hc'
theorem sp_bears {F0 : Nat → Prop} {w0 : World} {L : List Pt} {B : Nat} (hB : w0.heap.size ≤ B) : Bears B (fun W => Sp F0 w0 W L) := by
  intro W W' row h hg hr
  obtain ⟨Fs, h1, h2, h3, h4⟩ := h.pts
  exact ⟨h.out.grown hg fun k e => .inr (Nat.le_trans hB (hr k e).1), Fs, fun i A e => A.turn (h1 i A e) hg (fun r e => (hr r e).2), h2, h3, h4⟩
theorem SeqAt.set {W : World} {bn bs : Nat} {so : Option Addr} {sn sc : Nat} {s : List Int} (h : SeqAt W bn bs so sn sc s) {g j : Nat} (h1 : bn ≠ g) (h2 : bs ≠ g) (h3 : ∀ k, (Value.slice so sn sc).ownBlock = some k → k ≠ g) (u : Value) : SeqAt (W.setCell ⟨g, j, none⟩ u) bn bs so sn sc s := by
  have ho : Out (fun k => k = g) W (W.setCell ⟨g, j, none⟩ u) := (Out.refl (fun k => k = g) W).setCell (p := ⟨g, j, none⟩) (.inl rfl) u
  refine ⟨(ho.cell (p := ⟨bn, 0, none⟩) h.ln h1).trans h.cn, (ho.cell (p := ⟨bs, 0, none⟩) h.lb h2).trans h.cs, ⟨h.ls.len, h.ls.cap, h.ls.big, h.ls.top, fun h0 => ?_, h.ls.rng⟩, Nat.lt_of_lt_of_le h.ln ho.size, Nat.lt_of_lt_of_le h.lb ho.size⟩
  obtain ⟨b, off, e, hlt, hc⟩ := h.ls.mem h0
  subst e
  exact ⟨b, off, rfl, Nat.lt_of_lt_of_le hlt ho.size, fun i hi => (ho.cell (p := ⟨b, off + i, none⟩) hlt (h3 b rfl)).trans (hc i hi)⟩
/-- The parts of a sequence of a shape's places. -/
def seqL (bn bs : Nat) (so : Option Addr) (sn sc : Nat) (s : List Int) : List Pt := [Pt.row ⟨3, 1, some ⟨bn, 0, none⟩, 1, 1, [.int .i64 (szE s)]⟩, Pt.ints 3 so sn sc s, Pt.row ⟨25, 1, some ⟨bs, 0, none⟩, 1, 1, [.slice so sn sc]⟩]
def SeqP (w : World) (s : List Int) (e : Ending) (w' : World) : Prop := ∃ bn bs so sn sc, e = .returned (seqV bn bs) ∧ Sp Non w w' (seqL bn bs so sn sc s)
set_option maxRecDepth 100000 in
set_option maxHeartbeats 400000 in
theorem all_sp {w : World} {ao : Option Addr} {n c : Nat} {s : List Int} (h : Ls w ao n c s) : Calls Try.prog 91 #[.slice ao n c] w (SeqP w s) := by
  have CZ := Lib.hid (size_any h)
  have H1 := Lib.hid ((Sp.start Non w).alloc 3 1 1 #[.int .i64 (szE s)] rfl (by decide))
  have CC := Lib.hid (clone_any (h.below H1.out.belowN (Nat.le_refl _)))
  have hmf : ∀ (fn : Fn) (first cap : Array Value) (w : World), (Instr.makeFunc fn first cap).run Try.prog w = .ok (.func fn first cap) w := fun _ _ _ _ => rfl
  clear h
  go_enter Try.func91, Try.ntmps91
  go_wp2_with fail
  refine CZ.out.mono ?_; rintro e w1 ⟨rfl, hw⟩
  have hw' := hw.symm
  subst hw'
  go_wp2_with fail
  refine CC.out.mono ?_; rintro e w2 ⟨so, sc, rfl, hL, hO, hB⟩
  have HF : Hid (SeqP w s (.returned (seqV w.heap.size w2.heap.size)) (w2.alloc (.cells #[.slice so n sc] 25))) :=
    ⟨_, _, so, n, sc, rfl, (H1.out.intsNew hO hB hL.big hL.rng).alloc 25 1 1 #[.slice so n sc] rfl (by decide)⟩
  clear hL hO hB H1
  go_wp2
  go_ret
  exact HF.out
/-- A part of memory taken as the whole of what may change, and handed back. -/
theorem Sp.rebase {F0 : Nat → Prop} {w0 w : World} {L : List Pt} (H : Sp F0 w0 w L) : ∃ F, Sp F w w L ∧ ∀ (w' : World) (M : List Pt), Sp F w w' M → Sp F0 w0 w' M ∧ KeepsOthers w w' := by
  obtain ⟨F, hF, hFs⟩ := H.all
  refine ⟨F, Sp.of_all (Out.refl _ _) hF (fun k h => .inl h), fun w' M h => ⟨?_, ?_⟩⟩
  · obtain ⟨F', h1, h2⟩ := h.all
    have hs := H.out.size
    refine Sp.of_all (H.out.trans h.out fun k hk hf => ?_) h1 fun k hk => ?_
    · rcases hFs k hf with h | h
      · exact h
      · omega
    · rcases h2 k hk with h | h
      · exact hFs k h
      · right; omega
  · refine ⟨h.out.size, fun k o hk ho => ?_⟩
    have hlt := (Array.getElem?_eq_some_iff.1 hk).1
    refine (h.out.block k hlt fun hf => ?_).trans hk
    obtain ⟨o', ho', hc⟩ := (Pt.all L).cl w F k hF hf
    rw [hk] at ho'
    cases ho'
    rw [ho] at hc
    cases hc
def RndOwn (F0 : Nat → Prop) (w0 : World) (Lk : Nat → List Pt) (s : List Int) (k : Nat) (x : Rnd) (W : World) : Prop := x.1 = k ∧ Sp F0 w0 W (Lk k ++ [Pt.ints 3 x.2.1 x.2.2.1 x.2.2.2 (ixL s k)])
theorem rndOwn_bears {F0 : Nat → Prop} {w0 : World} {Lk : Nat → List Pt} {s : List Int} {k : Nat} {x : Rnd} {B : Nat} (hB : w0.heap.size ≤ B) : Bears B (RndOwn F0 w0 Lk s k x) := fun W W' row h hg hr => ⟨h.1, sp_bears hB W W' row h.2 hg hr⟩
attribute [local go_sem] alloc_drewN setCell_drewN
attribute [local go_sem] Oper.semAt_some
set_option maxRecDepth 100000 in
set_option maxHeartbeats 800000 in
theorem allseq_sp {bn bs : Nat} {so : Option Addr} {sn sc : Nat} {s : List Int} {N : Nat} (hN : szE s = N) {F0 : Nat → Prop} {w0 : World} (Lk : Nat → List Pt) (e0 : ∀ k, (Lk k).take 3 = seqL bn bs so sn sc s) (m l : Nat) (h1 : 1 ≤ m) (J : Nat → World → Prop) (Jx : World → Prop) (W : World)
    (hK : ∀ k W, J k W → Sp F0 w0 W (Lk k)) (hJ : ∀ k W W', J k W → Below W.heap.size W W' → J k W')
    (hY : ∀ k x W1, k < N → J k W1 → RndOwn F0 w0 Lk s k x W1 → YieldAt Fence.wide (m - 1) Try.prog l (rndV x) W1 fun e W' => (e = .returned (.bool true) ∧ J (k + 1) W') ∨ (e = .returned (.bool false) ∧ Jx W'))
    (h0 : J 0 W) :
    CallsIn Fence.wide m Try.prog 100 #[.func (.yield l) #[] #[], .pointer (some ⟨bn, 0, none⟩), .pointer (some ⟨bs, 0, none⟩)] W fun e W' => (∃ v, e = .returned v) ∧ (J N W' ∨ Jx W') := by
  have hNb : N ≤ 4096 := by have := szE_bd s; omega
  have hat : ∀ k (j : Nat) (A : Pt), (seqL bn bs so sn sc s)[j]? = some A → (Lk k)[j]? = some A := fun k j A hj => by
    rw [← e0 k, List.getElem?_take] at hj
    split at hj
    · exact hj
    · cases hj
  have hQ : ∀ k W, J k W → SeqAt W bn bs so sn sc s := fun k W h => by
    have hs := hK k W h
    exact ⟨hs.cell (hat k 0 _ rfl) 0 _ rfl, hs.cell (hat k 2 _ rfl) 0 _ rfl, hs.ls (hat k 1 _ rfl), (hs.rlt (hat k 0 _ rfl)).1, (hs.rlt (hat k 2 _ rfl)).1⟩
  have r0 := (hQ 0 W h0).cn
  rw [hN] at r0
  have HY := Lib.hid hY
  have HK := Lib.hid hK
  have HQ := Lib.hid hQ
  have HJ := Lib.hid hJ
  have H0 := Lib.hid h0
  have G : Hid (∀ (k : Nat), k < N → ∀ W', J k W' → Calls Try.prog 101 #[.slice so sn sc, .int .i64 k] W' (MadeL W' (ixL s k))) := by
    intro k hk W' hWk
    obtain ⟨h1, h2⟩ := szE_pos hN (by omega)
    obtain ⟨g1, g2, g3⟩ := mayE_zero h1
    have hl := (hQ k W' hWk).ls
    exact indices_any hl k (by omega) (by have := hl.len; omega) (pos_all g1 (by omega))
  clear hY hK hJ h0 hN hQ hat e0
  refine callsIn_of_wp Try.func100 rfl trivial ?_
  simp only [Try.ntmps100, List.size_toArray, List.length_cons, List.length_nil, Nat.reduceAdd, Nat.reduceSub, Array.replicate_succ, Array.replicate_zero, List.push_toArray, List.append_toArray, List.nil_append, List.cons_append]
  gi_wp2
  gi_loopw [6] (fun i wr => ∃ k : Nat, k ≤ N ∧ i = .int .i64 k ∧ Hid (J k wr)) (fun i _ => N - (RowKit.intOf i).toNat)
  case atStart => exact ⟨0, Nat.zero_le _, rfl, H0⟩
  case round =>
    obtain ⟨k, hk, rfl, HK0⟩ := hrel
    by_cases hlt : k < N
    · have hlt' : (k : Int) < N := by omega
      have r1 := (HQ.out k wr HK0.out).cs
      gi_wp2_with (refine ⟨trivial, ?_⟩; gi_at_call 101; refine (callsIn_wide.2 (G.out k hlt wr HK0.out)).mono ?_; rintro e w1 ⟨ao, n, c, rfl, hL, hO, hB⟩)
      have HJ1 := Lib.hid (HJ.out k wr w1 HK0.out hB)
      obtain ⟨fn, tmps, assign, body, hy, hR⟩ := HY.out k (k, ao, n, c) w1 hlt HJ1.out ⟨rfl, (HK.out k wr HK0.out).intsNew hO hB hL.big hL.rng⟩
      simp only [rndV] at hy
      have HR := Lib.hid hR
      clear hR hL hO hB r1
      rw [hy]
      simp only [Oper.uponIn]
      refine ⟨fun _ => h1, HR.out.mono ?_⟩
      rintro e w2 (⟨rfl, hJ2⟩ | ⟨rfl, hJx⟩)
      · have HJ2 := Lib.hid hJ2
        clear hJ2
        gi_wp2
        go_roundw
        case rel => exact ⟨k + 1, by omega, by go_num, HJ2⟩
        case measure => simp [RowKit.intOf]; omega
      · have HJx := Lib.hid hJx
        clear hJx
        gi_wp2
        (try simp only [Exit.inBlock, Exit.then])
        refine bodyPost_ret (results_none rfl _ _ _) rfl ?_
        exact ⟨⟨_, rfl⟩, .inr HJx.out⟩
    · obtain rfl : k = N := by omega
      have hge : (k : Int) ≤ k := Int.le_refl _
      gi_wp2
      go_end0
      exact ⟨⟨_, rfl⟩, .inl HK0.out⟩
end Go.Proofs.Ythackmkdicpdeaa

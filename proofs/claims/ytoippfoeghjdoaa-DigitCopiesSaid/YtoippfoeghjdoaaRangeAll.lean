/- shape.All's answer as an iterator: its contract for rounds. -/
import Derived.Test.YtoippfoeghjdoaaRangeSeq
namespace Go.Proofs.Ytoippfoeghjdoaa
open Go.RowKit Go.Lib Go.Shelf
set_option linter.unusedVariables false
set_option linter.unusedSimpArgs false
attribute [local go_sem] alloc_drewN setCell_drewN
attribute [local go_sem] Oper.semAt_some

/-- What a round is handed: the place and a slice that reads as its indices. -/
abbrev Rnd := Nat × (Option Addr × Nat × Nat)
def rndV (x : Rnd) : Array Value := #[.int .i64 x.1, .slice x.2.1 x.2.2.1 x.2.2.2]
def RndIs (s : List Int) (k : Nat) (x : Rnd) (W : World) : Prop := x.1 = k ∧ Ls W x.2.1 x.2.2.1 x.2.2.2 (ixL s k)
set_option maxRecDepth 100000 in
set_option maxHeartbeats 800000 in
theorem allseq_in {bn bs : Nat} {so : Option Addr} {sn sc : Nat} {s : List Int} {N : Nat} (hN : szE s = N) (m l : Nat) (h1 : 1 ≤ m) (J : Nat → World → Prop) (Jx : World → Prop) (W : World)
    (hK : ∀ k W, J k W → SeqAt W bn bs so sn sc s) (hJ : ∀ k W W', J k W → Below W.heap.size W W' → J k W')
    (hY : ∀ k x W1, k < N → J k W1 → RndIs s k x W1 → YieldAt Fence.wide (m - 1) Try.prog l (rndV x) W1 fun e W' => (e = .returned (.bool true) ∧ J (k + 1) W') ∨ (e = .returned (.bool false) ∧ Jx W'))
    (h0 : J 0 W) :
    CallsIn Fence.wide m Try.prog 93 #[.func (.yield l) #[] #[], .pointer (some ⟨bn, 0, none⟩), .pointer (some ⟨bs, 0, none⟩)] W fun e W' => (∃ v, e = .returned v) ∧ (J N W' ∨ Jx W') := by
  have hNb : N ≤ 4096 := by have := szE_bd s; omega
  have r0 := (hK 0 W h0).cn
  rw [hN] at r0
  have HY := Lib.hid hY
  have HK := Lib.hid hK
  have HJ := Lib.hid hJ
  have H0 := Lib.hid h0
  have G : Hid (∀ (k : Nat), k < N → ∀ W', J k W' → Calls Try.prog 94 #[.slice so sn sc, .int .i64 k] W' (MadeL W' (ixL s k))) := by
    intro k hk W' hWk
    obtain ⟨h1, h2⟩ := szE_pos hN (by omega)
    obtain ⟨g1, g2, g3⟩ := mayE_zero h1
    have hl := (hK k W' hWk).ls
    exact indices_any hl k (by omega) (by have := hl.len; omega) (pos_all g1 (by omega))
  clear hY hK hJ h0 hN
  refine callsIn_of_wp Try.func93 rfl trivial ?_
  simp only [Try.ntmps93, List.size_toArray, List.length_cons, List.length_nil, Nat.reduceAdd, Nat.reduceSub, Array.replicate_succ, Array.replicate_zero, List.push_toArray, List.append_toArray, List.nil_append, List.cons_append]
  gi_wp2
  gi_loopw [6] (fun i wr => ∃ k : Nat, k ≤ N ∧ i = .int .i64 k ∧ Hid (J k wr)) (fun i _ => N - (RowKit.intOf i).toNat)
  case atStart => exact ⟨0, Nat.zero_le _, rfl, H0⟩
  case round =>
    obtain ⟨k, hk, rfl, HK0⟩ := hrel
    by_cases hlt : k < N
    · have hlt' : (k : Int) < N := by omega
      have r1 := (HK.out k wr HK0.out).cs
      gi_wp2_with (refine ⟨trivial, ?_⟩; gi_at_call 94; refine (callsIn_wide.2 (G.out k hlt wr HK0.out)).mono ?_; rintro e w1 ⟨ao, n, c, rfl, hL, hO, hB⟩)
      have HJ1 := Lib.hid (HJ.out k wr w1 HK0.out hB)
      obtain ⟨fn, tmps, assign, body, hy, hR⟩ := HY.out k (k, ao, n, c) w1 hlt HJ1.out ⟨rfl, hL⟩
      simp only [rndV] at hy
      have HR := Lib.hid hR
      clear hR hL hO hB r1
      rw [hy]
      simp only [Oper.uponIn]
      refine ⟨fun _ => h1, HR.out.mono ?_⟩
      rintro e w2 (⟨rfl, hJ2⟩ | ⟨rfl, hJx⟩)
      · have HJ2 := Lib.hid hJ2
        clear hJ2
        gi_wp2
        go_roundw
        case rel => exact ⟨k + 1, by omega, by go_num, HJ2⟩
        case measure => simp [RowKit.intOf]; omega
      · have HJx := Lib.hid hJx
        clear hJx
        gi_wp2
        (try simp only [Exit.inBlock, Exit.then])
        refine bodyPost_ret (results_none rfl _ _ _) rfl ?_
        exact ⟨⟨_, rfl⟩, .inr HJx.out⟩
    · obtain rfl : k = N := by omega
      have hge : (k : Int) ≤ k := Int.le_refl _
      gi_wp2
      go_end0
      exact ⟨⟨_, rfl⟩, .inl HK0.out⟩
theorem ls_bears {ao : Option Addr} {n c : Nat} {zs : List Int} (B : Nat) : Bears B (fun W => Ls W ao n c zs) := by
  intro W W' row h hg hr
  refine ⟨h.len, h.cap, h.big, h.top, fun h0 => ?_, h.rng⟩
  obtain ⟨b, off, e, hlt, hc⟩ := h.mem h0
  exact ⟨b, off, e, Nat.lt_of_lt_of_le hlt hg.size, fun i hi => cell_kept (hc i hi) hg (fun r e => (hr r e).2)⟩
theorem cell_bears (B : Nat) (p : Addr) (v : Value) : Bears B (fun W => W.cell? p = some v) :=
  fun W W' row h hg hr => cell_kept h hg (fun r e => (hr r e).2)
theorem frozen_bears (B : Nat) (p : Addr) (v : Value) (b : Bool) : Bears B (fun W => W.cell? p = some v ∧ W.frozen? p = b) :=
  fun W W' row h hg hr => ⟨cell_kept h.1 hg (fun r e => (hr r e).2), (frozen_kept h.1 hg (fun r e => (hr r e).2)).trans h.2⟩
theorem below_bears {n0 B : Nat} {w0 : World} (hn : n0 ≤ w0.heap.size) (hB : n0 ≤ B) : Bears B (fun W => Below n0 w0 W) :=
  fun W W' row hs hg hr => hs.grown hg (Nat.le_trans hn hs.size) (fun k e => Nat.le_trans hB (hr k e).1)
theorem Bears.and {B : Nat} {I I' : World → Prop} (h : Bears B I) (h' : Bears B I') : Bears B (fun W => I W ∧ I' W) := fun W W' row hs hg hr => ⟨h W W' row hs.1 hg hr, h' W W' row hs.2 hg hr⟩
theorem Bears.const (B : Nat) (p : Prop) : Bears B (fun _ => p) := fun _ _ _ h _ _ => h
theorem seqAt_bears {bn bs : Nat} {so : Option Addr} {sn sc : Nat} {s : List Int} (B : Nat) : Bears B (fun W => SeqAt W bn bs so sn sc s) := by
  intro W W' row h hg hr
  exact ⟨cell_kept h.cn hg (fun r e => (hr r e).2), cell_kept h.cs hg (fun r e => (hr r e).2), ls_bears B W W' row h.ls hg hr, Nat.lt_of_lt_of_le h.ln hg.size, Nat.lt_of_lt_of_le h.lb hg.size⟩
theorem rnd_bears {s : List Int} {k : Nat} {x : Rnd} (B : Nat) : Bears B (RndIs s k x) := fun W W' row h hg hr => ⟨h.1, ls_bears B W W' row h.2 hg hr⟩
theorem keeps_of_below {W W' : World} (h : Below W.heap.size W W') : KeepsOthers W W' := ⟨h.size, fun k o hk _ => (h.block k (Array.getElem?_eq_some_iff.1 hk).1).trans hk⟩
end Go.Proofs.Ytoippfoeghjdoaa

/- Slices of integers that lie in memory, read as lists; what a call leaves of the world. -/
import Derived.Test.YthackmkdicpdeaaRows
import Derived.WalkKit
import Derived.WalkSpells
import Derived.WalkLawsBesides
import Derived.Lib.Hide
import Derived.Deep.QuietTactic
import Derived.BigQuiet
import Derived.StillTailTactics
namespace Go.Proofs.Ythackmkdicpdeaa
open Go.RowKit
set_option linter.unusedVariables false
set_option linter.unusedSimpArgs false

theorem alloc_drewN (W : World) (n : Nat) (o : Obj) : (W.drewN n).alloc o = (W.alloc o).drewN n := rfl
theorem setCell_drewN (W : World) (n : Nat) (a : Addr) (v : Value) : (W.drewN n).setCell a v = (W.setCell a v).drewN n := rfl

/-- The call hands back v and has at most drawn. -/
def Ret (w : World) (v : Value) (e : Ending) (w' : World) : Prop := e = .returned v ∧ ∃ n, w' = w.drewN n
theorem Ret.mk {w : World} {v v' : Value} (n : Nat) (h : v' = v) : Ret w v (.returned v') (w.drewN n) := ⟨by rw [h], n, rfl⟩
theorem Ret.mk0 {w : World} {v v' : Value} (h : v' = v) : Ret w v (.returned v') w := ⟨by rw [h], 0, rfl⟩
theorem Ret.quiet {P : Program} {f : FuncId} {args : Array Value} {w : World} {n : Nat} {v : Value} (h : Calls P f args (w.drewN n) (Ret (w.drewN n) v)) :
    Calls P f args (w.drewN n) fun e w'' => e = .returned v ∧ ∃ m, w'' = w.drewN m := Calls.quiet_of h
theorem Ret.via {w W : World} {v v' : Value} {n : Nat} (h : w.drewN n = W) (m : Nat) (h2 : v' = v) : Ret w v (.returned v') (W.drewN m) := ⟨by rw [h2], n + m, by rw [← h, World.drewN_drewN]⟩
/-- The call hands back v and leaves the world as it is. -/
def RetS (w : World) (v : Value) (e : Ending) (w' : World) : Prop := e = .returned v ∧ w' = w
theorem RetS.mk {w : World} {v v' : Value} (h : v' = v) : RetS w v (.returned v') w := ⟨by rw [h], rfl⟩
theorem RetS.still {P : Program} {f : FuncId} {args : Array Value} {w : World} {v : Value} (h : Calls P f args w (RetS w v)) : Calls P f args w fun e w'' => e = .returned v ∧ w'' = w := h
/-- The call hands back v; what lay in memory lies as it lay. -/
def RetB (w : World) (v : Value) (e : Ending) (w' : World) : Prop := e = .returned v ∧ Below w.heap.size w w'
theorem RetB.mk {w w' : World} {v v' : Value} (h : v' = v) (hg : Below w.heap.size w w') : RetB w v (.returned v') w' := ⟨by rw [h], hg⟩
theorem Ret.toB {w : World} {v : Value} {e : Ending} {w' : World} (h : Ret w v e w') : RetB w v e w' := by
  obtain ⟨h1, n, rfl⟩ := h; exact ⟨h1, below_drewN (Below.refl _ _) _⟩
theorem intv {k : IntKind} {a b : Int} (h : a = b) : Value.int k a = Value.int k b := by rw [h]
theorem boolv {a b : Bool} (h : a = b) : Value.bool a = Value.bool b := by rw [h]

/-- A slice value, its address, length and capacity, reads as the list zs of 64-bit integers. -/
structure Ls (w : World) (ao : Option Addr) (n c : Nat) (zs : List Int) : Prop where
  len : zs.length = n
  cap : n ≤ c
  big : n * 8 ≤ 140737488351232
  top : c ≤ maxLen
  mem : 0 < n → ∃ b off, ao = some ⟨b, off, none⟩ ∧ b < w.heap.size ∧ ∀ i, i < n → w.cell? ⟨b, off + i, none⟩ = some (.int .i64 (zs.getD i 0))
  rng : ∀ i, -9223372036854775808 ≤ zs.getD i 0 ∧ zs.getD i 0 ≤ 9223372036854775807
theorem Ls.below {w w' : World} {ao : Option Addr} {n c : Nat} {zs : List Int} (h : Ls w ao n c zs) {B : Nat} (hb : Below B w w') (hB : w.heap.size ≤ B) : Ls w' ao n c zs :=
  ⟨h.len, h.cap, h.big, h.top, fun h0 => by
    obtain ⟨b, off, e, hlt, hc⟩ := h.mem h0
    exact ⟨b, off, e, by have := hb.size; omega, fun i hi => (hb.cell (p := ⟨b, off + i, none⟩) (by show b < B; omega)).trans (hc i hi)⟩, h.rng⟩
theorem Ls.drew {w : World} {ao : Option Addr} {n c : Nat} {zs : List Int} (h : Ls w ao n c zs) (m : Nat) : Ls (w.drewN m) ao n c zs :=
  ⟨h.len, h.cap, h.big, h.top, h.mem, h.rng⟩
/-- A slice that is read at an index. -/
theorem Ls.at {w : World} {ao : Option Addr} {n c : Nat} {zs : List Int} (h : Ls w ao n c zs) (h0 : 0 < n) :
    ∃ b off, ao = some ⟨b, off, none⟩ ∧ ∀ i, i < n → w.cell? ⟨b, off + i, none⟩ = some (.int .i64 (zs.getD i 0)) := by
  obtain ⟨b, off, e, _, hc⟩ := h.mem h0; exact ⟨b, off, e, hc⟩

/-- A region that draws its order, whose first n operations only read, the rest in one forced order: the world is named by its draw. -/
theorem region_tail {P : Program} {id : Nat} {Q : Exit → Act → World → Prop} {a : Act} {w : World} {l : List Oper} (n : Nat) (hm : P.follows .mixedOrders = true) (hB : Region.lexTailB .any l.toArray n = true)
    (h : wpStill P l.toArray w.drew (fun a' => wpList P l.toArray Q (l.drop n) a' w.drew) (l.take n) a) : (Code.region id l.toArray true).wp P Q a w :=
  wp_region_still_tail n hm hB h
end Go.Proofs.Ythackmkdicpdeaa

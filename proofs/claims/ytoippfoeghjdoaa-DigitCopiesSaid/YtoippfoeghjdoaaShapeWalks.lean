/- Contracts of shape.All, what it hands back, and abacuslaw2.walks. -/
import Derived.Test.YtoippfoeghjdoaaShapeRef
namespace Go.Proofs.Ytoippfoeghjdoaa
open Go.RowKit Go.Lib
set_option linter.unusedVariables false
set_option linter.unusedSimpArgs false
attribute [local go_sem] alloc_drewN setCell_drewN

/-- The state that All's answer keeps: the number of places, and the shape. -/
structure SeqAt (W : World) (bn bs : Nat) (so : Option Addr) (sn sc : Nat) (s : List Int) : Prop where
  cn : W.cell? ⟨bn, 0, none⟩ = some (.int .i64 (szE s))
  cs : W.cell? ⟨bs, 0, none⟩ = some (.slice so sn sc)
  ls : Ls W so sn sc s
  ln : bn < W.heap.size
  lb : bs < W.heap.size
theorem SeqAt.below {W W' : World} {bn bs : Nat} {so : Option Addr} {sn sc : Nat} {s : List Int} (h : SeqAt W bn bs so sn sc s) (hb : Below W.heap.size W W') : SeqAt W' bn bs so sn sc s :=
  ⟨(hb.cell (p := ⟨bn, 0, none⟩) h.ln).trans h.cn, (hb.cell (p := ⟨bs, 0, none⟩) h.lb).trans h.cs, h.ls.below hb (Nat.le_refl _), Nat.lt_of_lt_of_le h.ln hb.size, Nat.lt_of_lt_of_le h.lb hb.size⟩
def seqV (bn bs : Nat) : Value := .func (.func 93) #[] #[.pointer (some ⟨bn, 0, none⟩), .pointer (some ⟨bs, 0, none⟩)]
/-- The call hands back a sequence of a shape's places. -/
def MadeSeq (w : World) (s : List Int) (e : Ending) (w' : World) : Prop :=
  ∃ bn bs so sn sc, e = .returned (seqV bn bs) ∧ SeqAt w' bn bs so sn sc s ∧ w.heap.size ≤ bn ∧ w.heap.size ≤ bs ∧ w'.ownsRow w.heap.size 3 1 (.slice so sn sc) sn (s.map (Value.int .i64)) ∧ Below w.heap.size w w'
set_option maxRecDepth 100000 in
set_option maxHeartbeats 400000 in
theorem all_any {w : World} {ao : Option Addr} {n c : Nat} {s : List Int} (h : Ls w ao n c s) :
    Calls Try.prog 64 #[.slice ao n c] w (MadeSeq w s) := by
  have CZ := Lib.hid (size_any h)
  have hb1 : Below w.heap.size w (w.alloc (.cells #[.int .i64 (szE s)] 3)) := (Below.refl _ _).alloc (Nat.le_refl _) _
  have CC := Lib.hid (clone_any (h.below hb1 (Nat.le_refl _)))
  have hmf : ∀ (fn : Fn) (first cap : Array Value) (w : World), (Instr.makeFunc fn first cap).run Try.prog w = .ok (.func fn first cap) w := fun _ _ _ _ => rfl
  clear h
  go_enter Try.func64, Try.ntmps64
  go_wp2_with fail
  refine CZ.out.mono ?_; rintro e w1 ⟨rfl, hw⟩
  have hw' := hw.symm
  subst hw'
  go_wp2_with fail
  refine CC.out.mono ?_; rintro e w2 ⟨so, sc, rfl, hL, hO, hB⟩
  have hsz : w.heap.size + 1 ≤ w2.heap.size := by have := hB.size; simpa using this
  have HF : Hid (MadeSeq w s (.returned (seqV w.heap.size w2.heap.size)) (w2.alloc (.cells #[.slice so n sc] 25))) := by
    have hal : ∀ o, Below w2.heap.size w2 (w2.alloc o) := fun o => (Below.refl _ _).alloc (Nat.le_refl _) _
    refine ⟨w.heap.size, w2.heap.size, so, n, sc, rfl, ⟨?_, ?_, hL.below (hal _) (Nat.le_refl _), ?_, ?_⟩, Nat.le_refl _, by omega, own_mono (hO.alloc _) (by simp), hb1.trans ((hB.mono (by simp)).alloc (by omega) _)⟩
    · rw [(hal _).cell (p := ⟨w.heap.size, 0, none⟩) (by dsimp only; omega), hB.cell (p := ⟨w.heap.size, 0, none⟩) (by simp)]
      simp [go_sem]
    · simp [go_sem]
    · simp; omega
    · simp
  clear hL hO hB hsz hb1
  go_wp2
  go_ret
  exact HF.out
theorem own_pos {w : World} {base : Nat} {E : TypeId} {ao : Option Addr} {n c : Nat} {xs : List Value} (h : w.ownsRow base E 1 (.slice ao n c) n xs) (h0 : 0 < n) : ∃ g, ao = some ⟨g, 0, none⟩ := by
  rcases h.2 with ⟨e, rfl⟩ | ⟨g, cap, cur, e, _⟩
  · omega
  · cases e; exact ⟨g, rfl⟩
/-- The state of a walk over the places: how many are wanted, whether all was well, how many there were; the row at hand. -/
structure WkS (w0 W : World) (want i : Int) (ok : Bool) : Prop where
  below : Below w0.heap.size w0 W
  c0 : W.cell? ⟨w0.heap.size, 0, none⟩ = some (.int .i64 want)
  c1 : W.cell? ⟨w0.heap.size + 1, 0, none⟩ = some (.bool ok)
  c2 : W.cell? ⟨w0.heap.size + 2, 0, none⟩ = some (.int .i64 i)
  f1 : W.frozen? ⟨w0.heap.size + 1, 0, none⟩ = false
  f2 : W.frozen? ⟨w0.heap.size + 2, 0, none⟩ = false
  lt : w0.heap.size + 3 ≤ W.heap.size
theorem WkS.next {w0 W W' : World} {want i : Int} {ok : Bool} (h : WkS w0 W want i ok) {B : Nat} (hb : Below B W W') (hB : w0.heap.size + 3 ≤ B) : WkS w0 W' want i ok :=
  ⟨h.below.trans (hb.mono (by omega)), (hb.cell (p := ⟨w0.heap.size, 0, none⟩) (by dsimp only; omega)).trans h.c0, (hb.cell (p := ⟨w0.heap.size + 1, 0, none⟩) (by dsimp only; omega)).trans h.c1, (hb.cell (p := ⟨w0.heap.size + 2, 0, none⟩) (by dsimp only; omega)).trans h.c2,
    (hb.frozen (p := ⟨w0.heap.size + 1, 0, none⟩) (by dsimp only; omega)).trans h.f1, (hb.frozen (p := ⟨w0.heap.size + 2, 0, none⟩) (by dsimp only; omega)).trans h.f2, by have := hb.size; have := h.lt; omega⟩
theorem WkS.drew {w0 W : World} {want i : Int} {ok : Bool} (h : WkS w0 W want i ok) (m : Nat) : WkS w0 (W.drewN m) want i ok :=
  ⟨below_drewN h.below m, h.c0, h.c1, h.c2, h.f1, h.f2, h.lt⟩
theorem WkS.setOk {w0 W : World} {want i : Int} {ok : Bool} (h : WkS w0 W want i ok) (b : Bool) : WkS w0 (W.setCell ⟨w0.heap.size + 1, 0, none⟩ (.bool b)) want i b := by
  refine ⟨h.below.setCell (by dsimp only; omega) _, ?_, World.cell?_setCell_same _ _ _ h.c1, ?_, ?_, ?_, by simpa using h.lt⟩
  · rw [World.cell?_setCell_far _ _ _ _ (by dsimp only; omega)]; exact h.c0
  · rw [World.cell?_setCell_far _ _ _ _ (by dsimp only; omega)]; exact h.c2
  · rw [World.frozen?_setCell]; exact h.f1
  · rw [World.frozen?_setCell]; exact h.f2
theorem WkS.setI {w0 W : World} {want i : Int} {ok : Bool} (h : WkS w0 W want i ok) (j : Int) : WkS w0 (W.setCell ⟨w0.heap.size + 2, 0, none⟩ (.int .i64 j)) want j ok := by
  refine ⟨h.below.setCell (by dsimp only; omega) _, ?_, ?_, World.cell?_setCell_same _ _ _ h.c2, ?_, ?_, by simpa using h.lt⟩
  · rw [World.cell?_setCell_far _ _ _ _ (by dsimp only; omega)]; exact h.c0
  · rw [World.cell?_setCell_far _ _ _ _ (by dsimp only; omega)]; exact h.c1
  · rw [World.frozen?_setCell]; exact h.f1
  · rw [World.frozen?_setCell]; exact h.f2
theorem WkS.setFar {w0 W : World} {want i : Int} {ok : Bool} (h : WkS w0 W want i ok) {g k : Nat} (hg : w0.heap.size + 3 ≤ g) (v : Value) : WkS w0 (W.setCell ⟨g, k, none⟩ v) want i ok := by
  refine ⟨h.below.setCell (by dsimp only; omega) _, ?_, ?_, ?_, ?_, ?_, by simpa using h.lt⟩
  · rw [World.cell?_setCell_far _ _ _ _ (by dsimp only; omega)]; exact h.c0
  · rw [World.cell?_setCell_far _ _ _ _ (by dsimp only; omega)]; exact h.c1
  · rw [World.cell?_setCell_far _ _ _ _ (by dsimp only; omega)]; exact h.c2
  · rw [World.frozen?_setCell]; exact h.f1
  · rw [World.frozen?_setCell]; exact h.f2
theorem szE_pos {s : List Int} {N : Nat} (h : szE s = N) (h0 : 0 < N) : mayE s = 0 ∧ pr s = N := by
  unfold szE at h
  split at h
  · exact ⟨by assumption, h⟩
  · omega
theorem run_equalIn_func_nil {P : Program} (w : World) (d : Nat) (t : TypeId) (fn : Fn) (first cap : Array Value) {ps rs : Array TypeId} {v : Bool} (h : P.underlying t = some (.func ps rs v)) :
    (Op.equalIn (d + 1) t (.func fn first cap) .nilFunc).run P w = .ok false w := by
  simp [Op.equalIn, run_underlying h]
theorem eql_func_nil (fn : Fn) (first cap : Array Value) (w : World) : (binOp .eql 95 (.func fn first cap) .nilFunc).run Try.prog w = .ok (.bool false) w := by
  simp only [binOp]
  simp [Op.equal, Op.maxDepth, run_equalIn_func_nil w 9999 95 fn first cap Try.underlying95]
theorem wks_new {w W : World} {want : Int} (h : W = ((((w.alloc (.cells #[.int .i64 want] 3)).alloc (.cells #[.bool true] 4))).alloc (.cells #[.int .i64 0] 3))) : WkS w W want 0 true := by
  subst h
  refine ⟨(((Below.refl _ _).alloc (Nat.le_refl _) _).alloc (by simp) _).alloc (by simp; omega) _, ?_, ?_, ?_, ?_, ?_, by simp⟩ <;> simp [go_sem]
end Go.Proofs.Ytoippfoeghjdoaa

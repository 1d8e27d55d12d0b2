/- Slices of arrays among the parts of memory. -/
import Derived.Test.YtfmabpdkjhlihaaSep2
namespace Go.Proofs.Ytfmabpdkjhlihaa
open Go.RowKit Go.Lib
set_option linter.unusedVariables false
set_option linter.unusedSimpArgs false
theorem cellsA_len (As : List Ar) : (cellsA As).length = As.length * 2 := by
  unfold cellsA
  induction As with
  | nil => rfl
  | cons A r ih => rw [List.flatMap_cons, List.length_append, ih, List.length_cons]; simp; omega
theorem cellsA_app (As Bs : List Ar) : cellsA (As ++ Bs) = cellsA As ++ cellsA Bs := by simp [cellsA]
theorem cellsA_at : ∀ {As : List Ar} {k : Nat} {A : Ar}, As[k]? = some A → (cellsA As)[k * 2]? = some (.slice A.sa A.sn A.sc) ∧ (cellsA As)[k * 2 + 1]? = some (.slice A.aa A.an A.ac)
  | [], k, A, h => by simp at h
  | B :: r, 0, A, h => by simp at h; subst h; exact ⟨rfl, rfl⟩
  | B :: r, k + 1, A, h => by
    have h' := cellsA_at (As := r) (k := k) (A := A) (by simpa using h)
    have e : cellsA (B :: r) = [.slice B.sa B.sn B.sc, .slice B.aa B.an B.ac] ++ cellsA r := rfl
    rw [e, List.getElem?_append_right (by simp; omega), List.getElem?_append_right (by simp; omega)]
    simpa [Nat.succ_mul] using h'
/-- A slice of arrays that is read. -/
structure Ars (w : World) (ao : Option Addr) (n c : Nat) (As : List Ar) : Prop where
  len : As.length = n
  cap : n ≤ c
  top : c ≤ maxLen
  mem : 0 < n → ∃ b off, ao = some ⟨b, off, none⟩ ∧ b < w.heap.size ∧ ∀ (i : Nat) (A : Ar), As[i]? = some A → w.cell? ⟨b, off + i * 2, none⟩ = some (.slice A.sa A.sn A.sc) ∧ w.cell? ⟨b, off + (i * 2 + 1), none⟩ = some (.slice A.aa A.an A.ac)
  all : ∀ (i : Nat) (A : Ar), As[i]? = some A → A.Is w
theorem Ars.below {w w' : World} {ao : Option Addr} {n c : Nat} {As : List Ar} (h : Ars w ao n c As) {B : Nat} (hb : Below B w w') (hB : w.heap.size ≤ B) : Ars w' ao n c As :=
  ⟨h.len, h.cap, h.top, fun h0 => by
    obtain ⟨b, off, e, hlt, hc⟩ := h.mem h0
    refine ⟨b, off, e, Nat.lt_of_lt_of_le hlt hb.size, fun i A hA => ?_⟩
    obtain ⟨h1, h2⟩ := hc i A hA
    exact ⟨(hb.cell (p := ⟨b, off + i * 2, none⟩) (by dsimp only; omega)).trans h1, (hb.cell (p := ⟨b, off + (i * 2 + 1), none⟩) (by dsimp only; omega)).trans h2⟩,
  fun i A hA => (h.all i A hA).below hb hB⟩
theorem Ars.via {w w' : World} {ao : Option Addr} {n c : Nat} {As : List Ar} (h : Ars w ao n c As) (hb : Below w.heap.size w w') : Ars w' ao n c As := h.below hb (Nat.le_refl _)
/-- Lengths and atoms. -/
def Ar.sa2 (A : Ar) : List Int × List Int := (A.s, A.a)
section
variable {F0 : Nat → Prop} {w0 w w' : World} {L : List Pt} {i : Nat} {A A' : Pt}
theorem Sp.ars (H : Sp F0 w0 w L) {ao : Option Addr} {n c : Nat} {As : List Ar} (e : L[i]? = some (Pt.arrs ao n c As)) : Ars w ao n c As := by
  have h1 := H.inner e
  have hc := h1.rcap (i := 0) rfl
  have h2 := h1.inner (i := 1) (M := As.map Pt.arr) rfl
  obtain ⟨c1, c2, c3, c4, c5⟩ := hc
  rw [cellsA_len] at c3
  refine ⟨by omega, c1, c2, fun h0 => ?_, fun k A hA => h2.isA (i := k) (by rw [List.getElem?_map, hA]; rfl)⟩
  obtain ⟨g, rfl⟩ := c5 (by omega)
  refine ⟨g, 0, rfl, (h1.rlt (i := 0) rfl).1, fun k A hA => ?_⟩
  obtain ⟨q1, q2⟩ := cellsA_at hA
  rw [Nat.zero_add, Nat.zero_add]
  exact ⟨h1.cell (i := 0) rfl _ _ q1, h1.cell (i := 0) rfl _ _ q2⟩
/-- The parts of a slice of arrays, seen beside one another. -/
theorem Sp.arsOf (H : Sp F0 w0 w L) {ao : Option Addr} {n c j : Nat} {As : List Ar} (e : L[i]? = some (Pt.row ⟨25, 2, ao, n, c, cellsA As⟩)) (e2 : L[j]? = some (Pt.all (As.map Pt.arr))) : Ars w ao n c As := by
  obtain ⟨c1, c2, c3, c4, c5⟩ := H.rcap e
  have h2 := H.inner e2
  rw [cellsA_len] at c3
  refine ⟨by omega, c1, c2, fun h0 => ?_, fun k A hA => h2.isA (i := k) (by rw [List.getElem?_map, hA]; rfl)⟩
  obtain ⟨g, rfl⟩ := c5 (by omega)
  refine ⟨g, 0, rfl, (H.rlt e).1, fun k A hA => ?_⟩
  obtain ⟨q1, q2⟩ := cellsA_at hA
  rw [Nat.zero_add, Nat.zero_add]
  exact ⟨H.cell e _ _ q1, H.cell e _ _ q2⟩
theorem Pt.all_one {A : Pt} {F : Nat → Prop} (h : A.P w F) : (Pt.all [A]).P w F :=
  ⟨fun i k => i = 0 ∧ F k, fun i B e => by
    cases i with
    | zero => simp at e; subst e; simpa using h
    | succ i => simp at e, fun i j k hij h1 h2 => hij (h1.1.trans h2.1.symm), fun i k h => by simp [h.1], fun k => by simp⟩
theorem Sp.pair (H : Sp F0 w0 w L) {j : Nat} {B : Pt} (e : L[i]? = some A) (hij : i ≠ j) (e2 : L[j]? = some B) : Sp F0 w0 w ((L.set j Pt.nil).set i (Pt.all [A, B])) := by
  have hil := (List.getElem?_eq_some_iff.1 e).1
  have h1 := H.sub e (Pt.all [A]) fun F hF => Pt.all_one hF
  have h2 := h1.snoc (i := i) (j := j) (M := [A]) (B := B) (List.getElem?_set_self hil) hij (by rw [List.getElem?_set_ne hij]; exact e2)
  rwa [List.set_comm _ _ (Ne.symm hij), List.set_set, List.set_comm _ _ hij] at h2
theorem Sp.allNil (H : Sp F0 w0 w L) : Sp F0 w0 w (L ++ [Pt.all []]) :=
  H.add (M := [Pt.all []]) ⟨Out.refl _ _, fun _ _ => False, fun i A e => by
    cases i with
    | zero => simp at e; subst e; exact ⟨fun _ _ => False, fun i A e => by simp at e, fun _ _ _ _ h => h.elim, fun _ _ h => h.elim, fun k => by simp⟩
    | succ i => simp at e, fun _ _ _ _ h => h.elim, fun _ _ h => h.elim, fun _ _ h => h.elim⟩
/-- An array more. -/
theorem Sp.arrMore (H : Sp F0 w0 w L) {As : List Ar} {j : Nat} {B : Ar} (e : L[i]? = some (Pt.all (As.map Pt.arr))) (hij : i ≠ j) (e2 : L[j]? = some (Pt.arr B)) : Sp F0 w0 w ((L.set j Pt.nil).set i (Pt.all ((As ++ [B]).map Pt.arr))) := by
  rw [List.map_append]
  exact H.snoc e hij e2
theorem Sp.arrsOf (H : Sp F0 w0 w L) {ao : Option Addr} {n c j : Nat} {As : List Ar} (e : L[i]? = some (Pt.row ⟨25, 2, ao, n, c, cellsA As⟩)) (hij : i ≠ j) (e2 : L[j]? = some (Pt.all (As.map Pt.arr))) : Sp F0 w0 w ((L.set j Pt.nil).set i (Pt.arrs ao n c As)) := H.pair e hij e2
theorem Sp.llNew (H : Sp F0 w0 w L) {ao bo : Option Addr} {n c m d : Nat} {xs ys : List Int} {E E2 : TypeId} (hL1 : Ls w' ao n c xs) (hL2 : Ls w' bo m d ys) (hO1 : w'.ownsRow w.heap.size E 1 (.slice ao n c) n (xs.map (Value.int .i64)))
    (hO2 : w'.ownsRow w.heap.size E2 1 (.slice bo m d) m (ys.map (Value.int .i64))) (hne : ∀ g, (Value.slice ao n c).ownBlock = some g → (Value.slice bo m d).ownBlock ≠ some g) (hb : Below w.heap.size w w') :
    Sp F0 w0 w' (L ++ [Pt.ints E ao n c xs, Pt.ints E2 bo m d ys]) := by
  refine H.add ⟨Out.of hb, fun i k => (i = 0 ∧ (Value.slice ao n c).ownBlock = some k) ∨ (i = 1 ∧ (Value.slice bo m d).ownBlock = some k), fun i A e => ?_, fun i j k hij q1 q2 => ?_, fun i k h => ?_, fun i k h => .inr ?_⟩
  · match i with
    | 0 => simp at e; subst e; exact ⟨⟨hL1.big, hL1.rng⟩, Rw.own.base (r := ⟨E, 1, ao, n, c, xs.map (Value.int .i64)⟩) hO1 (fun _ _ => Nat.zero_le _), fun k => by simp [Rw.v]⟩
    | 1 => simp at e; subst e; exact ⟨⟨hL2.big, hL2.rng⟩, Rw.own.base (r := ⟨E2, 1, bo, m, d, ys.map (Value.int .i64)⟩) hO2 (fun _ _ => Nat.zero_le _), fun k => by simp [Rw.v]⟩
    | i + 2 => simp at e
  · rcases q1 with ⟨rfl, q1⟩ | ⟨rfl, q1⟩ <;> rcases q2 with ⟨rfl, q2⟩ | ⟨rfl, q2⟩
    · exact hij rfl
    · exact hne k q1 q2
    · exact hne k q2 q1
    · exact hij rfl
  · rcases h with ⟨rfl, -⟩ | ⟨rfl, -⟩ <;> simp
  · rcases h with ⟨-, h⟩ | ⟨-, h⟩
    · exact (own_block hO1 h).1
    · exact (own_block hO2 h).1
end
/-- Two cells of a box that was just laid. -/
theorem newsA (w : World) (T : TypeId) (x y : Value) : ∀ (q : Nat) (v : Value), [x, y][q]? = some v → (w.alloc (.cells #[x, y] T)).cell? (Addr.add ⟨w.heap.size, 0, none⟩ q) = some v := by
  intro q v hv
  match q with
  | 0 => simp at hv; subst hv; simp [go_sem]
  | 1 => simp at hv; subst hv; simp [go_sem]
  | q + 2 => simp at hv
end Go.Proofs.Ytfmabpdkjhlihaa

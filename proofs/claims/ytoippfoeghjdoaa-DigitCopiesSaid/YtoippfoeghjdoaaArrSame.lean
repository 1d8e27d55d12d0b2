/- Contracts of cmp.Or, arr.Same, arr.Compare and of the law's own Eq. -/
import Derived.Test.YtoippfoeghjdoaaSlicesEq
import Derived.Test.YtoippfoeghjdoaaSlicesCmp
import Derived.StillTailTactics
namespace Go.Proofs.Ytoippfoeghjdoaa
open Go.RowKit
set_option linter.unusedVariables false
set_option linter.unusedSimpArgs false
attribute [local go_sem] alloc_drewN setCell_drewN

def orL : List Int → Int
  | [] => 0
  | x :: xs => if x = 0 then orL xs else x
theorem orL_step {xs : List Int} {k : Nat} (h : k < xs.length) : orL (xs.drop k) = if xs.getD k 0 = 0 then orL (xs.drop (k + 1)) else xs.getD k 0 := by
  rw [List.drop_eq_getElem_cons h]
  simp only [List.getD, List.getElem?_eq_getElem h, Option.getD_some]
  rfl
/-- An array: two slices, its shape and its atoms. -/
structure Ar where
  (sa : Option Addr)
  (sn sc : Nat)
  (aa : Option Addr)
  (an ac : Nat)
  (s a : List Int)
def Ar.v (A : Ar) : Value := .agg #[.slice A.sa A.sn A.sc, .slice A.aa A.an A.ac]
structure Ar.Is (A : Ar) (w : World) : Prop where
  shp : Ls w A.sa A.sn A.sc A.s
  ats : Ls w A.aa A.an A.ac A.a
theorem Ar.Is.below {A : Ar} {w w' : World} (h : A.Is w) {B : Nat} (hb : Below B w w') (hB : w.heap.size ≤ B) : A.Is w' := ⟨h.shp.below hb hB, h.ats.below hb hB⟩
theorem below_two (w : World) (A B : Array Value) (t u : TypeId) (n : Nat) : Below w.heap.size w (((w.alloc (.cells A t)).alloc (.cells B u)).drewN n) :=
  below_drewN (((Below.refl _ _).alloc (Nat.le_refl _) _).alloc (by simp) _) n
theorem cmpI_bd (a b : Int) : -1 ≤ cmpI a b ∧ cmpI a b ≤ 1 := by
  unfold cmpI; split
  · omega
  · split <;> omega
theorem cmpL_bd : ∀ xs ys : List Int, -1 ≤ cmpL xs ys ∧ cmpL xs ys ≤ 1
  | [], [] => by simp [cmpL]
  | [], _ :: _ => by simp [cmpL]
  | _ :: _, [] => by simp [cmpL]
  | x :: xs, y :: ys => by
    unfold cmpL; split
    · omega
    · split
      · omega
      · exact cmpL_bd xs ys
theorem ls_new3 (W : World) {x y z : Int} (hx : -1 ≤ x ∧ x ≤ 1) (hy : -1 ≤ y ∧ y ≤ 1) (hz : -1 ≤ z ∧ z ≤ 1) :
    Ls (W.alloc (.cells #[.int .i64 x, .int .i64 y, .int .i64 z] 3)) (some ⟨W.heap.size, 0, none⟩) 3 3 [x, y, z] := by
  refine ⟨rfl, by omega, by omega, by simp [maxLen], fun _ => ⟨W.heap.size, 0, rfl, by simp, fun i hi => ?_⟩, fun i => ?_⟩
  · rw [World.cell?_alloc_at _ _ _ _ rfl]
    match i, hi with
    | 0, _ => rfl
    | 1, _ => rfl
    | 2, _ => rfl
  · match i with
    | 0 => exact ⟨by show _ ≤ x; omega, by show x ≤ _; omega⟩
    | 1 => exact ⟨by show _ ≤ y; omega, by show y ≤ _; omega⟩
    | 2 => exact ⟨by show _ ≤ z; omega, by show z ≤ _; omega⟩
    | i + 3 => exact ⟨by simp [List.getD], by simp [List.getD]⟩
def cmpA (A B : Ar) : Int := orL [cmpI A.sn B.sn, cmpL A.s B.s, cmpL A.a B.a]
end Go.Proofs.Ytoippfoeghjdoaa

/- The memory in which a short array is handed in (abacuslaw3.Hand): Lay and Kept. -/
import Derived.Test.YtoippfoeghjdoaaHeap
import Derived.Test.YtoippfoeghjdoaaItemPlain
import Derived.Deep.RegionHeld3
import Derived.Deep.CutRange
import Derived.Deep.Cut
namespace Go.Proofs.Ytoippfoeghjdoaa
open Go.RowKit Go.Lib
set_option linter.unusedVariables false
set_option linter.unusedSimpArgs false
attribute [local go_sem] alloc_drewN setCell_drewN

structure Hd where
  (hb : Nat)
  (sa : Option Addr)
  (sn : Nat)
  (aa : Option Addr)
  (an : Nat)
  (S A : List Int)
/-- The blocks of the hand. -/
def Hd.foot (H : Hd) (k : Nat) : Prop := k = H.hb ∨ (Value.slice H.sa H.sn H.sn).ownBlock = some k ∨ (Value.slice H.aa H.an H.an).ownBlock = some k
structure Hd.Is (H : Hd) (base : Nat) (w : World) : Prop where
  box : BoxA w H.hb (.slice H.sa H.sn H.sn) (.slice H.aa H.an H.an)
  shp : w.ownsRow base 3 1 (.slice H.sa H.sn H.sn) H.sn (H.S.map (Value.int .i64))
  ats : w.ownsRow base 2 1 (.slice H.aa H.an H.an) H.an (H.A.map (Value.int .i64))
  le : base ≤ H.hb
  n1 : (Value.slice H.sa H.sn H.sn).ownBlock ≠ some H.hb
  n2 : (Value.slice H.aa H.an H.an).ownBlock ≠ some H.hb
  ne : ∀ g, (Value.slice H.sa H.sn H.sn).ownBlock = some g → (Value.slice H.aa H.an H.an).ownBlock ≠ some g
  alt : (H.sa = none ∧ H.aa = none) ∨ (H.sa ≠ none ∧ H.aa ≠ none)
theorem Hd.Is.foot_lt {H : Hd} {base : Nat} {w : World} (h : H.Is base w) {k : Nat} (hk : H.foot k) : base ≤ k ∧ k < w.heap.size := by
  rcases hk with rfl | hk | hk
  · exact ⟨h.le, h.box.lt⟩
  · exact own_block h.shp hk
  · exact own_block h.ats hk
theorem Hd.Is.out {H : Hd} {base : Nat} {w w' : World} {F : Nat → Prop} (h : H.Is base w) (ho : Out F w w') (hF : ∀ k, H.foot k → ¬ F k) : H.Is base w' :=
  ⟨ho.boxA h.box (hF _ (.inl rfl)), ho.own h.shp (fun g hg => hF g (.inr (.inl hg))), ho.own h.ats (fun g hg => hF g (.inr (.inr hg))), h.le, h.n1, h.n2, h.ne, h.alt⟩
theorem Hd.Is.via {H : Hd} {base : Nat} {w w' : World} (h : H.Is base w) (hb : Below w.heap.size w w') : H.Is base w' := h.out (F := fun _ => False) (.of hb) (fun _ _ h => h)
theorem own_len {w : World} {base : Nat} {E : TypeId} {v : Value} {n : Nat} {S : List Int} (h : w.ownsRow base E 1 v n (S.map (Value.int .i64))) : S.length = n := by
  have := h.1; simpa using this
theorem Hd.Is.setS {H : Hd} {base : Nat} {w : World} (h : H.Is base w) {g k : Nat} (hg : H.sa = some ⟨g, 0, none⟩) (v : Int) : Hd.Is { H with S := H.S.set k v } base (w.setCell ⟨g, k, none⟩ (.int .i64 v)) := by
  have hv : (Value.slice H.sa H.sn H.sn).ownBlock = some g := by rw [hg]; rfl
  have hne : g ≠ H.hb := fun e => by
    exact h.n1 (by rw [hv, e])
  have ho : Out (fun k => k = g) w (w.setCell ⟨g, k, none⟩ (.int .i64 v)) := (Out.refl (fun k => k = g) w).setCell (p := ⟨g, k, none⟩) (.inl rfl) _
  have hst := h.shp
  rw [hg] at hst
  have hs := (hst.stored k (.int .i64 v)).1
  rw [← List.map_set] at hs
  exact ⟨ho.boxA h.box (fun e => hne e.symm), by rw [hg]; exact hs, ho.own h.ats (fun q hq e => h.ne g hv (by rw [hq, e])), h.le, h.n1, h.n2, h.ne, h.alt⟩
theorem Hd.Is.setA {H : Hd} {base : Nat} {w : World} (h : H.Is base w) {g k : Nat} (hg : H.aa = some ⟨g, 0, none⟩) (v : Int) : Hd.Is { H with A := H.A.set k v } base (w.setCell ⟨g, k, none⟩ (.int .i64 v)) := by
  have hv : (Value.slice H.aa H.an H.an).ownBlock = some g := by rw [hg]; rfl
  have hne : g ≠ H.hb := fun e => by
    exact h.n2 (by rw [hv, e])
  have ho : Out (fun k => k = g) w (w.setCell ⟨g, k, none⟩ (.int .i64 v)) := (Out.refl (fun k => k = g) w).setCell (p := ⟨g, k, none⟩) (.inl rfl) _
  have hst := h.ats
  rw [hg] at hst
  have hs := (hst.stored k (.int .i64 v)).1
  rw [← List.map_set] at hs
  exact ⟨ho.boxA h.box (fun e => hne e.symm), ho.own h.shp (fun q hq e => h.ne q hq (by rw [hv, e])), by rw [hg]; exact hs, h.le, h.n1, h.n2, h.ne, h.alt⟩
/-- The i-th mark behind a list. -/
def mkS (i : Nat) : Int := wrap64 (-70000 - (i : Int))
def mkA (i : Nat) : Int := wrap64 (-80000 - (i : Int))
/-- What stands in a row, as far as it reaches: a list, marks behind it. -/
def Good (s S : List Int) (f : Nat → Int) : Prop := ∀ i, i < S.length → S.getD i 0 = if i < s.length then s.getD i 0 else f i
/-- A row whose first k elements are written over. -/
def ovr (v : Int) (k : Nat) (S : List Int) : List Int := List.replicate k v ++ S.drop k
theorem ovr_len (v : Int) {k : Nat} {S : List Int} (h : k ≤ S.length) : (ovr v k S).length = S.length := by simp [ovr]; omega
theorem ovr_set (v : Int) {k : Nat} {S : List Int} (h : k < S.length) : (ovr v k S).set k v = ovr v (k + 1) S := by
  unfold ovr
  rw [List.set_append_right _ _ (by simp), List.length_replicate, Nat.sub_self, List.drop_eq_getElem_cons h, List.set_cons_zero, List.replicate_succ', List.append_assoc]
  rfl
theorem ovr_get (v : Int) {k : Nat} {S : List Int} (h : k < S.length) : (ovr v k S).getD k 0 = S.getD k 0 := by
  unfold ovr
  rw [List.getD_eq_getElem?_getD, List.getElem?_append_right (by simp), List.length_replicate, Nat.sub_self, List.getElem?_drop, Nat.add_zero, List.getD_eq_getElem?_getD]
/-- The hand after Kept: its own blocks alone were written. -/
def KeptP (H : Hd) (base : Nat) (w : World) (e : Ending) (w' : World) : Prop :=
  e = .returned (.bool true) ∧ Out H.foot w w' ∧ ∃ H' : Hd, H'.hb = H.hb ∧ (∀ k, H'.foot k → H.foot k) ∧ H'.Is base w'
theorem beq_same (x : Int) : (x == x) = true := by simp
def shB (A : Ar) : Bool := decide (A.sn ≤ 5000) && decide (A.an ≤ 5000)
end Go.Proofs.Ytoippfoeghjdoaa

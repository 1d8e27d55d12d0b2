/- Contracts of shape.Agree, shape.Split. -/
import Derived.Test.YtfmabpdkjhlihaaShapeAt
namespace Go.Proofs.Ytfmabpdkjhlihaa
open Go.RowKit Go.Lib
set_option linter.unusedVariables false
set_option linter.unusedSimpArgs false
attribute [local go_sem] alloc_drewN setCell_drewN

theorem Ls.take {w : World} {ao : Option Addr} {n c : Nat} {zs : List Int} (h : Ls w ao n c zs) {k : Nat} (hk : k ≤ n) : Ls w ao k c (zs.take k) := by
  have h1 := h.len; have h2 := h.cap; have h3 := h.big
  refine ⟨by simp; omega, by omega, by omega, h.top, fun h0 => ?_, fun i => ?_⟩
  · obtain ⟨b, off, e, hlt, hc⟩ := h.mem (by omega)
    exact ⟨b, off, e, hlt, fun i hi => by rw [hc i (by omega)]; simp [List.getD, hi]⟩
  · by_cases hi : i < k
    · have := h.rng i; simpa [List.getD, hi] using this
    · rw [show (zs.take k).getD i 0 = 0 by simp [List.getD, List.getElem?_take, hi]]; omega
theorem MadeL.ofC {w : World} {ao : Option Addr} {n : Nat} {zs : List Int} {e : Ending} {w' : World} (h : Cloned w 3 ao n zs e w') : MadeL w zs e w' := by
  obtain ⟨ao', c', h1, h2, h3, h4⟩ := h; exact ⟨_, _, _, h1, h2, h3, h4⟩
/-- What Agree tells. -/
def agL (s t : List Int) : List Int := if s.length < t.length then if t.take s.length = s then t else [] else if s.take t.length = t then s else []
def agE (s t : List Int) : Int := if s.length < t.length then if t.take s.length = s then 0 else 11 else if s.take t.length = t then 0 else 11
set_option maxRecDepth 100000 in
set_option maxHeartbeats 400000 in
theorem agree_any {w : World} {a1 a2 : Option Addr} {n1 c1 n2 c2 : Nat} {s t : List Int} (h1 : Ls w a1 n1 c1 s) (h2 : Ls w a2 n2 c2 t) :
    Calls Try.prog 38 #[.slice a1 n1 c1, .slice a2 n2 c2] w (MadeS w (agL s t) (agE s t)) := by
  have hl1 := h1.len
  have hl2 := h2.len
  have hc1 := h1.cap
  have hc2 := h2.cap
  have g1 := h1.big
  have g2 := h2.big
  have g3 := h1.top
  have g4 := h2.top
  unfold maxLen at g3 g4
  by_cases hlt : n1 < n2
  · have hlt' : (n1 : Int) < n2 := by omega
    have CE := Lib.hid (equal_any (h2.take (show n1 ≤ n2 by omega)) h1)
    have CC := Lib.hid (fun w' (hb : Below w.heap.size w w') => clone_any (h2.below hb (Nat.le_refl _)))
    have eL : agL s t = if t.take n1 = s then t else [] := by unfold agL; rw [hl1, hl2, if_pos hlt]
    have eE : agE s t = if t.take n1 = s then 0 else 11 := by unfold agE; rw [hl1, hl2, if_pos hlt]
    rw [eL, eE]
    have y1 : (n1 : Int) ≤ c2 := by omega
    clear h1 h2 eL eE hl1 hl2
    by_cases hq : t.take n1 = s
    · rw [if_pos hq, if_pos hq]
      simp only [hq, decide_true] at CE
      go_enter Try.func38, Try.ntmps38
      go_wp2_with fail
      refine CE.out.mono ?_; rintro e' w' ⟨rfl, q, rfl⟩
      go_wp2_with fail
      refine (CC.out _ (below_drewN (Below.refl _ _) q)).mono ?_; rintro e' w2 ⟨ao', c', rfl, hL, hO, hB⟩
      have HF : Hid (MadeS w t 0 (.returned (.tuple #[.slice ao' n2 c', .int .i64 0])) w2) := ⟨_, _, _, rfl, hL, hO, (below_drewN (Below.refl _ _) q).trans hB⟩
      clear hL hO hB
      go_wp2
      go_ret2
      exact HF.out
    · rw [if_neg hq, if_neg hq]
      simp only [hq, decide_false] at CE
      go_enter Try.func38, Try.ntmps38
      go_wp2_with fail
      refine CE.out.mono ?_; rintro e' w' ⟨rfl, q, rfl⟩
      go_wp2
      go_ret2
      exact MadeS.nil _ (below_drewN (Below.refl _ _) q)
  · have hlt' : (n2 : Int) ≤ n1 := by omega
    have CE := Lib.hid (equal_any (h1.take (show n2 ≤ n1 by omega)) h2)
    have CC := Lib.hid (fun w' (hb : Below w.heap.size w w') => clone_any (h1.below hb (Nat.le_refl _)))
    have eL : agL s t = if s.take n2 = t then s else [] := by unfold agL; rw [hl1, hl2, if_neg hlt]
    have eE : agE s t = if s.take n2 = t then 0 else 11 := by unfold agE; rw [hl1, hl2, if_neg hlt]
    rw [eL, eE]
    have y1 : (n2 : Int) ≤ c1 := by omega
    clear h1 h2 eL eE hl1 hl2
    by_cases hq : s.take n2 = t
    · rw [if_pos hq, if_pos hq]
      simp only [hq, decide_true] at CE
      go_enter Try.func38, Try.ntmps38
      go_wp2_with fail
      refine CE.out.mono ?_; rintro e' w' ⟨rfl, q, rfl⟩
      go_wp2_with fail
      refine (CC.out _ (below_drewN (Below.refl _ _) q)).mono ?_; rintro e' w2 ⟨ao', c', rfl, hL, hO, hB⟩
      have HF : Hid (MadeS w s 0 (.returned (.tuple #[.slice ao' n1 c', .int .i64 0])) w2) := ⟨_, _, _, rfl, hL, hO, (below_drewN (Below.refl _ _) q).trans hB⟩
      clear hL hO hB
      go_wp2
      go_ret2
      exact HF.out
    · rw [if_neg hq, if_neg hq]
      simp only [hq, decide_false] at CE
      go_enter Try.func38, Try.ntmps38
      go_wp2_with fail
      refine CE.out.mono ?_; rintro e' w' ⟨rfl, q, rfl⟩
      go_wp2
      go_ret2
      exact MadeS.nil _ (below_drewN (Below.refl _ _) q)
/-- Two rows of the call's own. -/
def MadeLL (w : World) (xs ys : List Int) (e : Ending) (w' : World) : Prop :=
  ∃ ao n c bo m d, e = .returned (.tuple #[.slice ao n c, .slice bo m d]) ∧ Ls w' ao n c xs ∧ Ls w' bo m d ys ∧ w'.ownsRow w.heap.size 3 1 (.slice ao n c) n (xs.map (Value.int .i64)) ∧ w'.ownsRow w.heap.size 3 1 (.slice bo m d) m (ys.map (Value.int .i64)) ∧
    (∀ g, (Value.slice ao n c).ownBlock = some g → (Value.slice bo m d).ownBlock ≠ some g) ∧ Below w.heap.size w w'
theorem mll {w w2 w3 : World} {ao1 ao2 : Option Addr} {n1 c1 n2 c2 : Nat} {xs ys xs' ys' : List Int} (hB1 : Below w.drew.heap.size w.drew w2) (hO1 : w2.ownsRow w.drew.heap.size 3 1 (.slice ao1 n1 c1) n1 (xs.map (Value.int .i64))) (hL1 : Ls w2 ao1 n1 c1 xs)
    (hB2 : Below w2.heap.size w2 w3) (hO2 : w3.ownsRow w2.heap.size 3 1 (.slice ao2 n2 c2) n2 (ys.map (Value.int .i64))) (hL2 : Ls w3 ao2 n2 c2 ys) (ex : xs' = xs) (ey : ys' = ys) :
    MadeLL w xs' ys' (.returned (.tuple #[.slice ao1 n1 c1, .slice ao2 n2 c2])) w3 := by
  subst ex ey
  have hs : w.heap.size ≤ w2.heap.size := hB1.size
  have hB1' : Below w.heap.size w w2 := (Below.refl _ _).drew.trans hB1
  refine ⟨_, _, _, _, _, _, rfl, hL1.below hB2 (Nat.le_refl _), hL2, own_below hO1 hB2 (Nat.le_refl _), own_mono hO2 hs, fun g h1 h2 => ?_, hB1'.trans (hB2.mono hs)⟩
  have q1 := own_block hO1 h1
  have q2 := own_block hO2 h2
  omega
/-- Where Split cuts. -/
def spN (k : Nat) (rank : Int) : Nat := if rank < 0 then if -(k : Int) ≤ rank then (-rank).toNat else k else k - rank.toNat
set_option maxRecDepth 100000 in
set_option maxHeartbeats 400000 in
theorem split_0 {w : World} {ao : Option Addr} {n c : Nat} {s : List Int} (h : Ls w ao n c s) (r : Int) (hr : -9223372036854775808 ≤ r ∧ r ≤ 9223372036854775807) (hcase : r < -(n : Int)) (q : Nat) (hq : q = spN n r) :
    Calls Try.prog 44 #[.slice ao n c, .int .i64 r] w (MadeLL w (s.take q) (s.drop q)) := by
  have hc1 := h.cap
  have hl := h.len
  have g1 := h.big
  have g3 := h.top
  unfold maxLen at g3
  unfold spN at hq
  obtain rfl : q = n := by split at hq <;> (try split at hq) <;> omega
  have z5 : IntKind.i64.wrap (q : Int) = q := IntWalk.i64_in _ (by omega)
  have z0 : r < 0 := by omega
  have z1 : ¬ -(q : Int) ≤ r := by omega
  have z2 : IntKind.i64.wrap (-(q : Int)) = -q := IntWalk.i64_in _ (by omega)
  have zq : True := trivial
  have hqn : q <= q := by omega
  have y0 : (0 : Int) ≤ q := by omega
  have y1 : ((q : Nat) : Int) ≤ c := by omega
  have y2 : ((q : Nat) : Int) ≤ q := by omega
  have y3 : (q : Int) ≤ c := by omega
  have y4 : (q : Int) - q = (q - q : Nat) := by omega
  clear hq zq
  have CA := Lib.hid (fun w' (hb : Below w.heap.size w w') => clone_any ((h.take (k := q) (by omega)).below hb (Nat.le_refl _)))
  have hd0 : Below w.heap.size w w.drew := (Below.refl _ _).drew
  have HL := Lib.hid hl
  clear hl
  by_cases hcq : c = q
  · have CB := Lib.hid (fun w' (hb : Below w.heap.size w w') => clone_any (Ls.zero w' ao (Nat.zero_le _ : 0 ≤ maxLen)))
    have HE : Hid (s.drop q = []) := by show _ = _; exact List.drop_of_length_le (by rw [HL.out]; omega)
    clear h
    subst hcq
    go_enter Try.func44, Try.ntmps44
    go_wp2_with fail
    go_region_held3 (fun _ => True) (trivial)
      (first
        | (go_at_call 47; (with_reducible refine Calls.mono (CA.out _ ?_) ?_); (assumption); rintro e w2 ⟨ao1, c1, rfl, hL1, hO1, hB1⟩; have hB1' := hd0.trans hB1)
        | (go_at_call 47; (with_reducible refine Calls.mono (CB.out _ ?_) ?_); (assumption); rintro e w3 ⟨ao2, c2, rfl, hL2, hO2, hB2⟩))
    have HF := Lib.hid (mll hB1 hO1 hL1 hB2 hO2 hL2 rfl HE.out)
    clear hB1 hO1 hL1 hB2 hO2 hL2 hB1'
    go_wp2
    go_ret2
    exact HF.out
  · have y5 : ¬ c = q := by omega
    have CB0 := fun w' (hb : Below w.heap.size w w') => (h.cutA q (q - q) (by omega)).below hb (Nat.le_refl _)
    simp only [Nat.sub_self, Nat.sub_zero] at CB0
    have CB := Lib.hid (fun w' (hb : Below w.heap.size w w') => clone_any (CB0 w' hb))
    have HE : Hid (s.drop q = (s.drop q).take (0)) := by show _ = _; rw [List.take_of_length_le]; rw [List.length_drop, HL.out]; omega
    clear h CB0
    go_enter Try.func44, Try.ntmps44
    go_wp2_with fail
    go_region_held3 (fun _ => True) (trivial)
      (first
        | (go_at_call 47; (with_reducible refine Calls.mono (CA.out _ ?_) ?_); (assumption); rintro e w2 ⟨ao1, c1, rfl, hL1, hO1, hB1⟩; have hB1' := hd0.trans hB1)
        | (go_at_call 47; (with_reducible refine Calls.mono (CB.out _ ?_) ?_); (assumption); rintro e w3 ⟨ao2, c2, rfl, hL2, hO2, hB2⟩))
    have HF := Lib.hid (mll hB1 hO1 hL1 hB2 hO2 hL2 rfl HE.out)
    clear hB1 hO1 hL1 hB2 hO2 hL2 hB1'
    go_wp2
    go_ret2
    exact HF.out
set_option maxRecDepth 100000 in
set_option maxHeartbeats 400000 in
theorem split_1 {w : World} {ao : Option Addr} {n c : Nat} {s : List Int} (h : Ls w ao n c s) (r : Int) (hr : -9223372036854775808 ≤ r ∧ r ≤ 9223372036854775807) (hcase : -(n : Int) ≤ r ∧ r < 0) (q : Nat) (hq : q = spN n r) :
    Calls Try.prog 44 #[.slice ao n c, .int .i64 r] w (MadeLL w (s.take q) (s.drop q)) := by
  have hc1 := h.cap
  have hl := h.len
  have g1 := h.big
  have g3 := h.top
  unfold maxLen at g3
  unfold spN at hq
  have z2 : IntKind.i64.wrap (-(n : Int)) = -n := IntWalk.i64_in _ (by omega)
  have zq : (q : Int) = -r := by split at hq <;> (try split at hq) <;> omega
  obtain ⟨d, hd⟩ : ∃ d : Nat, (n : Int) + r = d := ⟨(n + r).toNat, by omega⟩
  have z1 : IntKind.i64.wrap ((n : Int) + r) = d := by rw [hd]; exact IntWalk.i64_in _ (by omega)
  have z3 : IntKind.i64.wrap ((n : Int) - d) = q := by rw [show (n : Int) - d = q by omega]; exact IntWalk.i64_in _ (by omega)
  have hqn : q <= n := by omega
  have y0 : (0 : Int) ≤ q := by omega
  have y1 : ((q : Nat) : Int) ≤ c := by omega
  have y2 : ((q : Nat) : Int) ≤ n := by omega
  have y3 : (n : Int) ≤ c := by omega
  have y4 : (n : Int) - q = (n - q : Nat) := by omega
  clear hq zq
  clear hd
  have CA := Lib.hid (fun w' (hb : Below w.heap.size w w') => clone_any ((h.take (k := q) (by omega)).below hb (Nat.le_refl _)))
  have hd0 : Below w.heap.size w w.drew := (Below.refl _ _).drew
  have HL := Lib.hid hl
  clear hl
  by_cases hcq : c = q
  · have CB := Lib.hid (fun w' (hb : Below w.heap.size w w') => clone_any (Ls.zero w' ao (Nat.zero_le _ : 0 ≤ maxLen)))
    have HE : Hid (s.drop q = []) := by show _ = _; exact List.drop_of_length_le (by rw [HL.out]; omega)
    clear h
    obtain rfl : n = q := by omega
    subst hcq
    have z9 : IntKind.i64.wrap (0 : Int) = 0 := IntWalk.i64_in _ (by omega)
    go_enter Try.func44, Try.ntmps44
    go_wp2_with fail
    go_region_held3 (fun _ => True) (trivial)
      (first
        | (go_at_call 47; (with_reducible refine Calls.mono (CA.out _ ?_) ?_); (assumption); rintro e w2 ⟨ao1, c1, rfl, hL1, hO1, hB1⟩; have hB1' := hd0.trans hB1)
        | (go_at_call 47; (with_reducible refine Calls.mono (CB.out _ ?_) ?_); (assumption); rintro e w3 ⟨ao2, c2, rfl, hL2, hO2, hB2⟩))
    have HF := Lib.hid (mll hB1 hO1 hL1 hB2 hO2 hL2 rfl HE.out)
    clear hB1 hO1 hL1 hB2 hO2 hL2 hB1'
    go_wp2
    go_ret2
    exact HF.out
  · have y5 : ¬ c = q := by omega
    have CB0 := fun w' (hb : Below w.heap.size w w') => (h.cutA q (n - q) (by omega)).below hb (Nat.le_refl _)
    have CB := Lib.hid (fun w' (hb : Below w.heap.size w w') => clone_any (CB0 w' hb))
    have HE : Hid (s.drop q = (s.drop q).take (n - q)) := by show _ = _; rw [List.take_of_length_le]; rw [List.length_drop, HL.out]; omega
    clear h CB0
    go_enter Try.func44, Try.ntmps44
    go_wp2_with fail
    go_region_held3 (fun _ => True) (trivial)
      (first
        | (go_at_call 47; (with_reducible refine Calls.mono (CA.out _ ?_) ?_); (assumption); rintro e w2 ⟨ao1, c1, rfl, hL1, hO1, hB1⟩; have hB1' := hd0.trans hB1)
        | (go_at_call 47; (with_reducible refine Calls.mono (CB.out _ ?_) ?_); (assumption); rintro e w3 ⟨ao2, c2, rfl, hL2, hO2, hB2⟩))
    have HF := Lib.hid (mll hB1 hO1 hL1 hB2 hO2 hL2 rfl HE.out)
    clear hB1 hO1 hL1 hB2 hO2 hL2 hB1'
    go_wp2
    go_ret2
    exact HF.out
set_option maxRecDepth 100000 in
set_option maxHeartbeats 400000 in
theorem split_2 {w : World} {ao : Option Addr} {n c : Nat} {s : List Int} (h : Ls w ao n c s) (r : Int) (hr : -9223372036854775808 ≤ r ∧ r ≤ 9223372036854775807) (hcase : 0 ≤ r ∧ r < n) (q : Nat) (hq : q = spN n r) :
    Calls Try.prog 44 #[.slice ao n c, .int .i64 r] w (MadeLL w (s.take q) (s.drop q)) := by
  have hc1 := h.cap
  have hl := h.len
  have g1 := h.big
  have g3 := h.top
  unfold maxLen at g3
  unfold spN at hq
  have zq : (q : Int) = n - r := by split at hq <;> (try split at hq) <;> omega
  have z4 : min r (n : Int) = r := by omega
  have z1 : IntKind.i64.wrap ((n : Int) - r) = q := by rw [show (n : Int) - r = q by omega]; exact IntWalk.i64_in _ (by omega)
  have hqn : q <= n := by omega
  have y0 : (0 : Int) ≤ q := by omega
  have y1 : ((q : Nat) : Int) ≤ c := by omega
  have y2 : ((q : Nat) : Int) ≤ n := by omega
  have y3 : (n : Int) ≤ c := by omega
  have y4 : (n : Int) - q = (n - q : Nat) := by omega
  clear hq zq
  have CA := Lib.hid (fun w' (hb : Below w.heap.size w w') => clone_any ((h.take (k := q) (by omega)).below hb (Nat.le_refl _)))
  have hd0 : Below w.heap.size w w.drew := (Below.refl _ _).drew
  have HL := Lib.hid hl
  clear hl
  by_cases hcq : c = q
  · have CB := Lib.hid (fun w' (hb : Below w.heap.size w w') => clone_any (Ls.zero w' ao (Nat.zero_le _ : 0 ≤ maxLen)))
    have HE : Hid (s.drop q = []) := by show _ = _; exact List.drop_of_length_le (by rw [HL.out]; omega)
    clear h
    obtain rfl : n = q := by omega
    subst hcq
    have z9 : IntKind.i64.wrap (0 : Int) = 0 := IntWalk.i64_in _ (by omega)
    go_enter Try.func44, Try.ntmps44
    go_wp2_with fail
    go_region_held3 (fun _ => True) (trivial)
      (first
        | (go_at_call 47; (with_reducible refine Calls.mono (CA.out _ ?_) ?_); (assumption); rintro e w2 ⟨ao1, c1, rfl, hL1, hO1, hB1⟩; have hB1' := hd0.trans hB1)
        | (go_at_call 47; (with_reducible refine Calls.mono (CB.out _ ?_) ?_); (assumption); rintro e w3 ⟨ao2, c2, rfl, hL2, hO2, hB2⟩))
    have HF := Lib.hid (mll hB1 hO1 hL1 hB2 hO2 hL2 rfl HE.out)
    clear hB1 hO1 hL1 hB2 hO2 hL2 hB1'
    go_wp2
    go_ret2
    exact HF.out
  · have y5 : ¬ c = q := by omega
    have CB0 := fun w' (hb : Below w.heap.size w w') => (h.cutA q (n - q) (by omega)).below hb (Nat.le_refl _)
    have CB := Lib.hid (fun w' (hb : Below w.heap.size w w') => clone_any (CB0 w' hb))
    have HE : Hid (s.drop q = (s.drop q).take (n - q)) := by show _ = _; rw [List.take_of_length_le]; rw [List.length_drop, HL.out]; omega
    clear h CB0
    go_enter Try.func44, Try.ntmps44
    go_wp2_with fail
    go_region_held3 (fun _ => True) (trivial)
      (first
        | (go_at_call 47; (with_reducible refine Calls.mono (CA.out _ ?_) ?_); (assumption); rintro e w2 ⟨ao1, c1, rfl, hL1, hO1, hB1⟩; have hB1' := hd0.trans hB1)
        | (go_at_call 47; (with_reducible refine Calls.mono (CB.out _ ?_) ?_); (assumption); rintro e w3 ⟨ao2, c2, rfl, hL2, hO2, hB2⟩))
    have HF := Lib.hid (mll hB1 hO1 hL1 hB2 hO2 hL2 rfl HE.out)
    clear hB1 hO1 hL1 hB2 hO2 hL2 hB1'
    go_wp2
    go_ret2
    exact HF.out
set_option maxRecDepth 100000 in
set_option maxHeartbeats 400000 in
theorem split_3 {w : World} {ao : Option Addr} {n c : Nat} {s : List Int} (h : Ls w ao n c s) (r : Int) (hr : -9223372036854775808 ≤ r ∧ r ≤ 9223372036854775807) (hcase : (n : Int) ≤ r) (q : Nat) (hq : q = spN n r) :
    Calls Try.prog 44 #[.slice ao n c, .int .i64 r] w (MadeLL w (s.take q) (s.drop q)) := by
  have hc1 := h.cap
  have hl := h.len
  have g1 := h.big
  have g3 := h.top
  unfold maxLen at g3
  unfold spN at hq
  obtain rfl : q = 0 := by split at hq <;> (try split at hq) <;> omega
  have z4 : min r (n : Int) = n := by omega
  have z5 : IntKind.i64.wrap (0 : Int) = 0 := IntWalk.i64_in _ (by omega)
  have z0 : ¬ r < 0 := by omega
  have zq : True := trivial
  have hqn : 0 <= n := by omega
  have y0 : (0 : Int) ≤ 0 := by omega
  have y1 : ((0 : Nat) : Int) ≤ c := by omega
  have y2 : ((0 : Nat) : Int) ≤ n := by omega
  have y3 : (n : Int) ≤ c := by omega
  have y4 : (n : Int) - 0 = (n - 0 : Nat) := by omega
  clear hq zq
  have CA := Lib.hid (fun w' (hb : Below w.heap.size w w') => clone_any ((h.take (k := 0) (by omega)).below hb (Nat.le_refl _)))
  have hd0 : Below w.heap.size w w.drew := (Below.refl _ _).drew
  have HL := Lib.hid hl
  clear hl
  by_cases hcq : c = 0
  · have CB := Lib.hid (fun w' (hb : Below w.heap.size w w') => clone_any (Ls.zero w' ao (Nat.zero_le _ : 0 ≤ maxLen)))
    have HE : Hid (s.drop 0 = []) := by show _ = _; exact List.drop_of_length_le (by rw [HL.out]; omega)
    clear h
    obtain rfl : n = 0 := by omega
    subst hcq
    have z10 : min r (0 : Int) = 0 := by omega
    have z9 : IntKind.i64.wrap (0 : Int) = 0 := IntWalk.i64_in _ (by omega)
    go_enter Try.func44, Try.ntmps44
    go_wp2_with fail
    go_region_held3 (fun _ => True) (trivial)
      (first
        | (go_at_call 47; (with_reducible refine Calls.mono (CA.out _ ?_) ?_); (assumption); rintro e w2 ⟨ao1, c1, rfl, hL1, hO1, hB1⟩; have hB1' := hd0.trans hB1)
        | (go_at_call 47; (with_reducible refine Calls.mono (CB.out _ ?_) ?_); (assumption); rintro e w3 ⟨ao2, c2, rfl, hL2, hO2, hB2⟩))
    have HF := Lib.hid (mll hB1 hO1 hL1 hB2 hO2 hL2 rfl HE.out)
    clear hB1 hO1 hL1 hB2 hO2 hL2 hB1'
    go_wp2
    go_ret2
    exact HF.out
  · have y5 : ¬ c = 0 := by omega
    have CB0 := fun w' (hb : Below w.heap.size w w') => h.below hb (Nat.le_refl _)
    have CB := Lib.hid (fun w' (hb : Below w.heap.size w w') => clone_any (CB0 w' hb))
    have HE : Hid (s.drop 0 = s) := List.drop_zero
    clear h CB0
    go_enter Try.func44, Try.ntmps44
    go_wp2_with fail
    go_region_held3 (fun _ => True) (trivial)
      (first
        | (go_at_call 47; (with_reducible refine Calls.mono (CA.out _ ?_) ?_); (assumption); rintro e w2 ⟨ao1, c1, rfl, hL1, hO1, hB1⟩; have hB1' := hd0.trans hB1)
        | (go_at_call 47; (with_reducible refine Calls.mono (CB.out _ ?_) ?_); (assumption); rintro e w3 ⟨ao2, c2, rfl, hL2, hO2, hB2⟩))
    have HF := Lib.hid (mll hB1 hO1 hL1 hB2 hO2 hL2 rfl HE.out)
    clear hB1 hO1 hL1 hB2 hO2 hL2 hB1'
    go_wp2
    go_ret2
    exact HF.out
theorem split_any {w : World} {ao : Option Addr} {n c : Nat} {s : List Int} (h : Ls w ao n c s) (r : Int) (hr : -9223372036854775808 ≤ r ∧ r ≤ 9223372036854775807) :
    Calls Try.prog 44 #[.slice ao n c, .int .i64 r] w (MadeLL w (s.take (spN n r)) (s.drop (spN n r))) := by
  by_cases h0 : r < -(n : Int)
  · exact split_0 h r hr h0 _ rfl
  · by_cases h1 : r < 0
    · exact split_1 h r hr ⟨by omega, h1⟩ _ rfl
    · by_cases h2 : r < n
      · exact split_2 h r hr ⟨by omega, h2⟩ _ rfl
      · exact split_3 h r hr (by omega) _ rfl
end Go.Proofs.Ytfmabpdkjhlihaa

/- Rows among the parts of memory: cells, stores, appends, arrays and slices of arrays. -/
import Derived.Test.YtfmabpdkjhlihaaSep
namespace Go.Proofs.Ytfmabpdkjhlihaa
open Go.RowKit Go.Lib
set_option linter.unusedVariables false
set_option linter.unusedSimpArgs false
section
variable {F0 : Nat → Prop} {w0 w w' : World} {L : List Pt} {i : Nat} {A A' : Pt}
section
variable {E : TypeId} {sz g n c : Nat} {xs : List Value}
theorem Sp.rown (H : Sp F0 w0 w L) {r : Rw} (e : L[i]? = some (Pt.row r)) : r.own w 0 ∧ ∀ k, r.v.ownBlock = some k → F0 k ∨ w0.heap.size ≤ k := by
  obtain ⟨F, h, hF⟩ := H.get e
  exact ⟨h.1, fun k hk => hF k ((h.2 k).2 hk)⟩
theorem Sp.cell (H : Sp F0 w0 w L) (e : L[i]? = some (Pt.row ⟨E, sz, some ⟨g, 0, none⟩, n, c, xs⟩)) (j : Nat) (v : Value) (hj : xs[j]? = some v) : w.cell? ⟨g, j, none⟩ = some v := by
  have ho := (H.rown e).1
  have hlt : j < n * sz := by
    have h1 := ho.1
    simp only at h1
    rw [← h1]
    exact (List.getElem?_eq_some_iff.1 hj).1
  exact (World.ownsRow.cellAt ho j hlt).trans hj
theorem Sp.frozen (H : Sp F0 w0 w L) (e : L[i]? = some (Pt.row ⟨E, sz, some ⟨g, 0, none⟩, n, c, xs⟩)) (j : Nat) : w.frozen? ⟨g, j, none⟩ = false := World.ownsRow.frozenAt (H.rown e).1 j
theorem Sp.rlt (H : Sp F0 w0 w L) (e : L[i]? = some (Pt.row ⟨E, sz, some ⟨g, 0, none⟩, n, c, xs⟩)) : g < w.heap.size ∧ (F0 g ∨ w0.heap.size ≤ g) := by
  obtain ⟨h, hF⟩ := H.rown e
  exact ⟨(h.lt rfl).2, hF g rfl⟩
theorem Sp.rcap (H : Sp F0 w0 w L) {ao : Option Addr} (e : L[i]? = some (Pt.row ⟨E, sz, ao, n, c, xs⟩)) : n ≤ c ∧ c ≤ maxLen ∧ xs.length = n * sz ∧ (ao = none → c = 0) ∧ (0 < c → ∃ g, ao = some ⟨g, 0, none⟩) := by
  obtain ⟨ho, -⟩ := H.rown e
  rcases ho with ⟨h1, h2 | ⟨g, cap, cur, hv, hg, hh, hc, hm, hs, ht⟩⟩
  · simp only [Rw.v] at h2
    obtain ⟨h2, h3⟩ := h2
    cases h2
    exact ⟨Nat.le_refl _, Nat.zero_le _, h1, fun _ => rfl, fun h => absurd h (by simp)⟩
  · simp only [Rw.v] at hv hc hm
    cases hv
    exact ⟨hc, hm, h1, fun h => (by cases h), fun _ => ⟨g, rfl⟩⟩
theorem Sp.put (H : Sp F0 w0 w L) (e : L[i]? = some (Pt.row ⟨E, sz, some ⟨g, 0, none⟩, n, c, xs⟩)) (j : Nat) (u : Value) : Sp F0 w0 (w.setCell ⟨g, j, none⟩ u) (L.set i (Pt.row ⟨E, sz, some ⟨g, 0, none⟩, n, c, xs.set j u⟩)) := by
  refine H.step e fun F hF => ?_
  obtain ⟨h1, h2⟩ := World.ownsRow.stored hF.1 j u
  exact ⟨F, ⟨h1, hF.2⟩, fun k h => .inl h, (Out.refl F w).setCell (.inl ((hF.2 g).2 rfl)) u⟩
/-- A new row behind the others. -/
theorem Sp.rowNew (H : Sp F0 w0 w L) {r : Rw} (hO : r.own w' w.heap.size) (hb : Below w.heap.size w w') : Sp F0 w0 w' (L ++ [Pt.row r]) := by
  refine H.add ⟨Out.of hb, fun i k => i = 0 ∧ r.v.ownBlock = some k, fun i B e => ?_, fun i j k hij h1 h2 => hij (h1.1.trans h2.1.symm), fun i k h => by simp [h.1], fun i k h => .inr (hO.lt h.2).1⟩
  cases i with
  | zero => simp at e; subst e; exact ⟨hO.base fun _ _ => Nat.zero_le _, fun k => by simp⟩
  | succ i => simp at e
theorem Sp.alloc (H : Sp F0 w0 w L) (T : TypeId) (sz m : Nat) (cs : Array Value) (hs : cs.size = m * sz) (hm : m ≤ maxLen) : Sp F0 w0 (w.alloc (.cells cs T)) (L ++ [Pt.row ⟨T, sz, some ⟨w.heap.size, 0, none⟩, m, m, cs.toList⟩]) :=
  H.rowNew (World.ownsRow_lit w cs m (Nat.le_refl _) hm hs) (abal _ _)
theorem Sp.rowNil (H : Sp F0 w0 w L) (E : TypeId) (sz : Nat) : Sp F0 w0 w (L ++ [Pt.row ⟨E, sz, none, 0, 0, []⟩]) := H.rowNew (World.ownsRow_nil _ _ _ _) (Below.refl _ _)
end
section
variable {E : TypeId} {ao : Option Addr} {n c : Nat} {zs : List Int}
theorem Sp.intsNew (H : Sp F0 w0 w L) (hO : w'.ownsRow w.heap.size E 1 (.slice ao n c) n (zs.map (Value.int .i64))) (hb : Below w.heap.size w w') (h1 : n * 8 ≤ 140737488351232) (h2 : ∀ i, -9223372036854775808 ≤ zs.getD i 0 ∧ zs.getD i 0 ≤ 9223372036854775807) : Sp F0 w0 w' (L ++ [Pt.ints E ao n c zs]) := by
  have h := (H.rowNew (r := ⟨E, 1, ao, n, c, zs.map (Value.int .i64)⟩) hO hb).sub (i := L.length) (A' := Pt.ints E ao n c zs) (by simp) (fun F hF => ⟨⟨h1, h2⟩, hF⟩)
  simpa using h
theorem Sp.iown (H : Sp F0 w0 w L) (e : L[i]? = some (Pt.ints E ao n c zs)) : w.ownsRow 0 E 1 (.slice ao n c) n (zs.map (Value.int .i64)) := by
  obtain ⟨F, h, hF⟩ := H.get e
  exact h.2.1
theorem Sp.ipure (H : Sp F0 w0 w L) (e : L[i]? = some (Pt.ints E ao n c zs)) : n * 8 ≤ 140737488351232 ∧ ∀ i, -9223372036854775808 ≤ zs.getD i 0 ∧ zs.getD i 0 ≤ 9223372036854775807 := by
  obtain ⟨F, h, hF⟩ := H.get e
  exact h.1
theorem Pt.ints_ls {F : Nat → Prop} (h : (Pt.ints E ao n c zs).P w F) : Ls w ao n c zs := ls_of_own h.2.1 h.1.1 h.1.2
theorem Sp.ls (H : Sp F0 w0 w L) (e : L[i]? = some (Pt.ints E ao n c zs)) : Ls w ao n c zs := by
  obtain ⟨F, h, hF⟩ := H.get e
  exact Pt.ints_ls h
theorem Sp.toRow (H : Sp F0 w0 w L) (e : L[i]? = some (Pt.ints E ao n c zs)) : Sp F0 w0 w (L.set i (Pt.row ⟨E, 1, ao, n, c, zs.map (Value.int .i64)⟩)) := H.sub e _ fun F hF => hF.2
theorem Sp.toInts (H : Sp F0 w0 w L) (e : L[i]? = some (Pt.row ⟨E, 1, ao, n, c, zs.map (Value.int .i64)⟩)) (h1 : n * 8 ≤ 140737488351232) (h2 : ∀ i, -9223372036854775808 ≤ zs.getD i 0 ∧ zs.getD i 0 ≤ 9223372036854775807) : Sp F0 w0 w (L.set i (Pt.ints E ao n c zs)) := H.sub e _ fun F hF => ⟨⟨h1, h2⟩, hF⟩
end
theorem Pt.arr_own {B : Ar} {F : Nat → Prop} (h : (Pt.arr B).P w F) : B.Is w ∧ B.Own w 0 ∧ ∀ k, F k ↔ (Value.slice B.sa B.sn B.sc).ownBlock = some k ∨ (Value.slice B.aa B.an B.ac).ownBlock = some k := by
  obtain ⟨Fs, h1, h2, h3, h4⟩ := h
  have a := h1 0 _ rfl
  have b := h1 1 _ rfl
  refine ⟨⟨Pt.ints_ls a, Pt.ints_ls b⟩, ⟨a.2.1, b.2.1, fun g q1 q2 => h2 0 1 g (by omega) ((a.2.2 g).2 q1) ((b.2.2 g).2 q2)⟩, fun k => ?_⟩
  rw [h4 k]
  constructor
  · rintro ⟨i, hi⟩
    have := h3 i k hi
    simp only [List.length_cons, List.length_nil] at this
    rcases (show i = 0 ∨ i = 1 by omega) with rfl | rfl
    · exact .inl ((a.2.2 k).1 hi)
    · exact .inr ((b.2.2 k).1 hi)
  · rintro (h | h)
    · exact ⟨0, (a.2.2 k).2 h⟩
    · exact ⟨1, (b.2.2 k).2 h⟩
theorem Pt.arr_mk {B : Ar} (hI : B.Is w) (hO : B.Own w 0) : (Pt.arr B).P w (fun k => (Value.slice B.sa B.sn B.sc).ownBlock = some k ∨ (Value.slice B.aa B.an B.ac).ownBlock = some k) := by
  refine ⟨fun i k => (i = 0 ∧ (Value.slice B.sa B.sn B.sc).ownBlock = some k) ∨ (i = 1 ∧ (Value.slice B.aa B.an B.ac).ownBlock = some k), fun i A e => ?_, fun i j k hij q1 q2 => ?_, fun i k h => ?_, fun k => ?_⟩
  · match i with
    | 0 => simp at e; subst e; exact ⟨⟨hI.shp.big, hI.shp.rng⟩, hO.shp, fun k => by simp [Rw.v]⟩
    | 1 => simp at e; subst e; exact ⟨⟨hI.ats.big, hI.ats.rng⟩, hO.ats, fun k => by simp [Rw.v]⟩
    | i + 2 => simp at e
  · rcases q1 with ⟨rfl, q1⟩ | ⟨rfl, q1⟩ <;> rcases q2 with ⟨rfl, q2⟩ | ⟨rfl, q2⟩
    · exact hij rfl
    · exact hO.two k q1 q2
    · exact hO.two k q2 q1
    · exact hij rfl
  · rcases h with ⟨rfl, -⟩ | ⟨rfl, -⟩ <;> simp
  · constructor
    · rintro (h | h)
      · exact ⟨0, .inl ⟨rfl, h⟩⟩
      · exact ⟨1, .inr ⟨rfl, h⟩⟩
    · rintro ⟨i, ⟨-, h⟩ | ⟨-, h⟩⟩
      · exact .inl h
      · exact .inr h
theorem Ar.Own.base {B : Ar} {b b' : Nat} (h : B.Own w b) (h1 : ∀ k, (Value.slice B.sa B.sn B.sc).ownBlock = some k ∨ (Value.slice B.aa B.an B.ac).ownBlock = some k → b' ≤ k) : B.Own w b' :=
  ⟨Rw.own.base (r := rowS B) h.shp fun g hg => h1 g (.inl hg), Rw.own.base (r := rowA B) h.ats fun g hg => h1 g (.inr hg), h.two⟩
theorem Sp.arrNew (H : Sp F0 w0 w L) {B : Ar} (hI : B.Is w') (hO : B.Own w' w.heap.size) (hb : Below w.heap.size w w') : Sp F0 w0 w' (L ++ [Pt.arr B]) := by
  refine H.add ⟨Out.of hb, fun i k => i = 0 ∧ ((Value.slice B.sa B.sn B.sc).ownBlock = some k ∨ (Value.slice B.aa B.an B.ac).ownBlock = some k), fun i A e => ?_, fun i j k hij h1 h2 => hij (h1.1.trans h2.1.symm), fun i k h => by simp [h.1], fun i k h => .inr ?_⟩
  · cases i with
    | zero => simp at e; subst e; simpa using Pt.arr_mk hI (hO.base fun _ _ => Nat.zero_le _)
    | succ i => simp at e
  · rcases h.2 with h | h
    · exact (own_block hO.shp h).1
    · exact (own_block hO.ats h).1
theorem Sp.isA (H : Sp F0 w0 w L) {B : Ar} (e : L[i]? = some (Pt.arr B)) : B.Is w := by
  obtain ⟨F, h, hF⟩ := H.get e
  exact (Pt.arr_own h).1
theorem Sp.ownA (H : Sp Non w0 w L) {B : Ar} (e : L[i]? = some (Pt.arr B)) : B.Own w w0.heap.size := by
  obtain ⟨F, h, hF⟩ := H.get e
  obtain ⟨h1, h2, h3⟩ := Pt.arr_own h
  exact h2.base fun k hk => (hF k ((h3 k).2 hk)).elim (fun h => h.elim) id
/-- Two rows become an array. -/
theorem Sp.arrOf (H : Sp F0 w0 w L) {sa aa : Option Addr} {sn sc an ac : Nat} {s a : List Int} {j : Nat} (e : L[i]? = some (Pt.ints 3 sa sn sc s)) (hij : i ≠ j) (e2 : L[j]? = some (Pt.ints 2 aa an ac a)) :
    Sp F0 w0 w ((L.set i Pt.nil).set j (Pt.arr ⟨sa, sn, sc, aa, an, ac, s, a⟩)) := by
  obtain ⟨Fs, h1, h2, h3, h4⟩ := H.pts
  have a1 := h1 i _ e
  have a2 := h1 j _ e2
  have hi := (List.getElem?_eq_some_iff.1 e).1
  have hj := (List.getElem?_eq_some_iff.1 e2).1
  have hP := Pt.arr_mk (B := ⟨sa, sn, sc, aa, an, ac, s, a⟩) ⟨Pt.ints_ls a1, Pt.ints_ls a2⟩ ⟨a1.2.1, a2.2.1, fun g q1 q2 => h2 i j g hij ((a1.2.2 g).2 q1) ((a2.2.2 g).2 q2)⟩
  refine ⟨H.out, fun q k => (q = j ∧ (Fs i k ∨ Fs j k)) ∨ (q ≠ j ∧ q ≠ i ∧ Fs q k), fun q B eq => ?_, fun x y k hxy q1 q2 => ?_, fun q k h => ?_, fun q k h => ?_⟩
  · by_cases hq : q = j
    · subst hq
      rw [List.getElem?_set_self (by rw [List.length_set]; exact hj)] at eq
      cases eq
      refine cast (congrArg _ (funext fun k => ?_)) hP
      simp only [true_and, ne_eq, not_true_eq_false, false_and, or_false]
      rw [propext (a1.2.2 k), propext (a2.2.2 k)]
      rfl
    · rw [List.getElem?_set_ne (Ne.symm hq)] at eq
      by_cases hqi : q = i
      · subst hqi
        rw [List.getElem?_set_self hi] at eq
        cases eq
        intro k hk
        simp [hq] at hk
      · rw [List.getElem?_set_ne (Ne.symm hqi)] at eq
        simpa [hq, hqi] using h1 q B eq
  · rcases q1 with ⟨rfl, q1⟩ | ⟨n1, m1, q1⟩ <;> rcases q2 with ⟨rfl, q2⟩ | ⟨n2, m2, q2⟩
    · exact hxy rfl
    · rcases q1 with q1 | q1
      · exact h2 _ _ k (Ne.symm m2) q1 q2
      · exact h2 _ _ k (Ne.symm n2) q1 q2
    · rcases q2 with q2 | q2
      · exact h2 _ _ k (Ne.symm m1) q2 q1
      · exact h2 _ _ k (Ne.symm n1) q2 q1
    · exact h2 _ _ k hxy q1 q2
  · rw [List.length_set, List.length_set]
    rcases h with ⟨rfl, -⟩ | ⟨-, -, h⟩
    · exact hj
    · exact h3 q k h
  · rcases h with ⟨rfl, h | h⟩ | ⟨-, -, h⟩
    · exact h4 _ k h
    · exact h4 _ k h
    · exact h4 _ k h
theorem Sp.madeE (H : Sp Non w0 w L) {B : Ar} (e : L[i]? = some (Pt.arr B)) (err : Int) : MadeE w0 B.s B.a err (.returned (.tuple #[B.v, .int .i64 err])) w :=
  ⟨B, rfl, H.isA e, rfl, rfl, H.ownA e, H.belowN⟩
/-- One part more in a part of parts. -/
theorem Sp.snoc (H : Sp F0 w0 w L) {M : List Pt} {j : Nat} {B : Pt} (e : L[i]? = some (Pt.all M)) (hij : i ≠ j) (e2 : L[j]? = some B) : Sp F0 w0 w ((L.set j Pt.nil).set i (Pt.all (M ++ [B]))) := by
  obtain ⟨Fs, h1, h2, h3, h4⟩ := H.pts
  obtain ⟨Gs, g1, g2, g3, g4⟩ := h1 i _ e
  have a2 := h1 j _ e2
  have hi := (List.getElem?_eq_some_iff.1 e).1
  have hj := (List.getElem?_eq_some_iff.1 e2).1
  have hsub : ∀ q k, Gs q k → Fs i k := fun q k h => (g4 k).2 ⟨q, h⟩
  refine ⟨H.out, fun q k => (q = i ∧ (Fs i k ∨ Fs j k)) ∨ (q ≠ i ∧ q ≠ j ∧ Fs q k), fun q C eq => ?_, fun x y k hxy q1 q2 => ?_, fun q k h => ?_, fun q k h => ?_⟩
  · by_cases hq : q = i
    · subst hq
      rw [List.getElem?_set_self (by rw [List.length_set]; exact hi)] at eq
      cases eq
      refine ⟨fun p k => (p < M.length ∧ Gs p k) ∨ (p = M.length ∧ Fs j k), fun p D ep => ?_, fun x y k hxy q1 q2 => ?_, fun p k h => ?_, fun k => ?_⟩
      · by_cases hp : p < M.length
        · rw [List.getElem?_append_left hp] at ep
          have : ¬ p = M.length := by omega
          simpa [hp, this] using g1 p D ep
        · have hp' : p = M.length := by
            have := (List.getElem?_eq_some_iff.1 ep).1
            simp at this
            omega
          subst hp'
          simp at ep
          subst ep
          simpa using a2
      · rcases q1 with ⟨n1, q1⟩ | ⟨n1, q1⟩ <;> rcases q2 with ⟨n2, q2⟩ | ⟨n2, q2⟩
        · exact g2 x y k hxy q1 q2
        · exact h2 _ _ k hij (hsub _ k q1) q2
        · exact h2 _ _ k hij (hsub _ k q2) q1
        · omega
      · rw [List.length_append, List.length_singleton]
        rcases h with ⟨h, -⟩ | ⟨h, -⟩ <;> omega
      · simp only [true_and, ne_eq, not_true_eq_false, false_and, or_false]
        constructor
        · rintro (h | h)
          · obtain ⟨p, hp⟩ := (g4 k).1 h
            exact ⟨p, .inl ⟨g3 p k hp, hp⟩⟩
          · exact ⟨_, .inr ⟨rfl, h⟩⟩
        · rintro ⟨p, ⟨-, h⟩ | ⟨-, h⟩⟩
          · exact .inl (hsub p k h)
          · exact .inr h
    · rw [List.getElem?_set_ne (Ne.symm hq)] at eq
      by_cases hqj : q = j
      · subst hqj
        rw [List.getElem?_set_self hj] at eq
        cases eq
        intro k hk
        simp [hq] at hk
      · rw [List.getElem?_set_ne (Ne.symm hqj)] at eq
        simpa [hq, hqj] using h1 q C eq
  · rcases q1 with ⟨rfl, q1⟩ | ⟨n1, m1, q1⟩ <;> rcases q2 with ⟨rfl, q2⟩ | ⟨n2, m2, q2⟩
    · exact hxy rfl
    · rcases q1 with q1 | q1
      · exact h2 _ _ k (Ne.symm n2) q1 q2
      · exact h2 _ _ k (Ne.symm m2) q1 q2
    · rcases q2 with q2 | q2
      · exact h2 _ _ k (Ne.symm n1) q2 q1
      · exact h2 _ _ k (Ne.symm m1) q2 q1
    · exact h2 _ _ k hxy q1 q2
  · rw [List.length_set, List.length_set]
    rcases h with ⟨rfl, -⟩ | ⟨-, -, h⟩
    · exact hi
    · exact h3 q k h
  · rcases h with ⟨rfl, h | h⟩ | ⟨-, -, h⟩
    · exact h4 _ k h
    · exact h4 _ k h
    · exact h4 _ k h
/-- A part among the parts of a part. -/
theorem Sp.inner (H : Sp F0 w0 w L) {M : List Pt} (e : L[i]? = some (Pt.all M)) : Sp F0 w0 w M := by
  have h := (H.split e).pick ((List.range M.length).map (· + L.length)) (by
    rw [List.nodup_iff_pairwise_ne] at *
    rw [List.pairwise_map]
    exact (List.nodup_range (n := M.length)).imp fun h => by omega)
  rw [List.map_map] at h
  have : (List.range M.length).map ((fun i_1 => (L.set i Pt.nil ++ M).getD i_1 Pt.nil) ∘ fun x => x + L.length) = M := by
    apply List.ext_getElem?
    intro j
    rw [List.getElem?_map]
    rcases Nat.lt_or_ge j M.length with hj | hj
    · rw [List.getElem?_range hj]
      simp [List.getD, List.getElem?_append_right, hj]
    · rw [List.getElem?_eq_none (by simpa using hj), List.getElem?_eq_none hj]; rfl
  rwa [this] at h
section
variable {P : Program}
theorem Sp.run_append (H : Sp F0 w0 w L) (t ty E : TypeId) (q : TypeInfo) (z : Value) (size bytes : Nat) (ht : P.underlying t = some (.slice E)) (hi : P.info? E = some q) (hz : q.zero = some z)
    (hsize : q.size = size) (hby : q.bytes = bytes) (hzs : z.cells.size = size) (hsz : 0 < size)
    {ao : Option Addr} {n c : Nat} {xs : List Value} (hr : L[i]? = some (Pt.row ⟨E, size, ao, n, c, xs⟩))
    (a : Addr) (m c' : Nat) (news : List Value) (hl : news.length = m * size) (hnews : ∀ j u, news[j]? = some u → w.cell? (a.add j) = some u) (h1 : ∀ u ∈ news, u.oneCell' = true)
    (h63 : n + m ≤ maxLen) (hbytes : (n + m) * bytes ≤ 140737488355328) :
    ∃ bo d w', (Builtin.append_ #[t, t] ty #[.slice ao n c, .slice (some a) m c']).run P w = .ok (.slice bo (n + m) d) w' ∧ Sp F0 w0 w' (L.set i (Pt.row ⟨E, size, bo, n + m, d, xs ++ news⟩)) := by
  obtain ⟨F, hF, -, -, hh⟩ := H.hole hr
  obtain ⟨v', w', g1, g2, g3, g4, g5⟩ := Go.run_append_own_at (P := P) w 0 t ty E q z size bytes ht hi hz hsize hby hzs hsz _ n xs hF.1 a m c' news hl hnews h1 h63 hbytes (Nat.zero_le _)
  obtain ⟨bo, d, rfl, hf⟩ := own_form' g2
  refine ⟨bo, d, w', g1, hh w' _ (fun k => (Value.slice bo (n + m) d).ownBlock = some k) ⟨g2, fun k => Iff.rfl⟩ (fun k hk => ?_) ((Out.refl F w).grown g3 fun k hk => .inl ((hF.2 k).2 hk))⟩
  rcases g5 with g5 | g5
  · left
    refine (hF.2 k).2 ?_
    show (Value.slice ao n c).ownBlock = some k
    rw [← hk]
    exact g5.symm
  · right
    rw [hk] at g5
    cases g5
    exact Nat.le_refl _
theorem Sp.wp_append (H : Sp F0 w0 w L) {o : Oper} {a : Act} {K : Act → World → Prop} {Q : Exit → Act → World → Prop} (s x : Operand) (t : TypeId)
    (ho : o.op = .call { callee := .builtin .append, args := #[s, x], argTypes := #[t, t] })
    (E : TypeId) (q : TypeInfo) (z : Value) (size bytes : Nat) (ht : P.underlying t = some (.slice E)) (hi : P.info? E = some q) (hz : q.zero = some z)
    (hsize : q.size = size) (hby : q.bytes = bytes) (hzs : z.cells.size = size) (hsz : 0 < size)
    {ao : Option Addr} {n c : Nat} {xs : List Value} (hr : L[i]? = some (Pt.row ⟨E, size, ao, n, c, xs⟩)) (hs : a.eval s = .slice ao n c)
    (ad : Addr) (m c' : Nat) (hx : a.eval x = .slice (some ad) m c') (news : List Value) (hl : news.length = m * size) (hnews : ∀ j u, news[j]? = some u → w.cell? (ad.add j) = some u) (h1 : ∀ u ∈ news, u.oneCell' = true)
    (h63 : n + m ≤ maxLen) (hbytes : (n + m) * bytes ≤ 140737488355328)
    (hk : ∀ bo d w', Sp F0 w0 w' (L.set i (Pt.row ⟨E, size, bo, n + m, d, xs ++ news⟩)) → K (a.put o.dst (.slice bo (n + m) d)) w') : o.wp P a w K Q := by
  obtain ⟨bo, d, w', hrun, h2⟩ := H.run_append (P := P) t o.type E q z size bytes ht hi hz hsize hby hzs hsz hr ad m c' news hl hnews h1 h63 hbytes
  unfold Oper.wp execOp
  simp only [ho, resolve, invoke, builtin, Sem.run_bind, Sem.run_pure, Result.andThen_ok, List.map_toArray, List.map_cons, List.map_nil, hs, hx, hrun]
  exact hk bo d w' h2
theorem Sp.step_append (H : Sp F0 w0 w L) {ops : Array Oper} {o : Oper} {a : Act} {K : Act → World → Prop} {Q : Exit → Act → World → Prop} {Z : Prop} (hgd : o.guard = none) (s x : Operand) (t : TypeId)
    (ho : o.op = .call { callee := .builtin .append, args := #[s, x], argTypes := #[t, t] })
    (E : TypeId) (q : TypeInfo) (z : Value) (size bytes : Nat) (ht : P.underlying t = some (.slice E)) (hi : P.info? E = some q) (hz : q.zero = some z)
    (hsize : q.size = size) (hby : q.bytes = bytes) (hzs : z.cells.size = size) (hsz : 0 < size)
    {ao : Option Addr} {n c : Nat} {xs : List Value} (hr : L[i]? = some (Pt.row ⟨E, size, ao, n, c, xs⟩)) (hs : a.eval s = .slice ao n c)
    (ad : Addr) (m c' : Nat) (hx : a.eval x = .slice (some ad) m c') (news : List Value) (hl : news.length = m * size) (hnews : ∀ j u, news[j]? = some u → w.cell? (ad.add j) = some u) (h1 : ∀ u ∈ news, u.oneCell' = true)
    (h63 : n + m ≤ maxLen) (hbytes : (n + m) * bytes ≤ 140737488355328)
    (hk : ∀ bo d w', Sp F0 w0 w' (L.set i (Pt.row ⟨E, size, bo, n + m, d, xs ++ news⟩)) → K (a.put o.dst (.slice bo (n + m) d)) w') :
    if Region.wanted o (yielded ops a.tmps) = true then Oper.wp P o a w K Q else Z := by
  have hw : Region.wanted o (yielded ops a.tmps) = true := by simp [Region.wanted, hgd]
  rw [if_pos hw]
  exact H.wp_append s x t ho E q z size bytes ht hi hz hsize hby hzs hsz hr hs ad m c' hx news hl hnews h1 h63 hbytes hk
theorem Sp.wpList_append (H : Sp F0 w0 w L) {ops : Array Oper} {rest : List Oper} {o : Oper} {a : Act} {Q : Exit → Act → World → Prop} (hgd : o.guard = none) (s x : Operand) (t : TypeId)
    (ho : o.op = .call { callee := .builtin .append, args := #[s, x], argTypes := #[t, t] })
    (E : TypeId) (q : TypeInfo) (z : Value) (size bytes : Nat) (ht : P.underlying t = some (.slice E)) (hi : P.info? E = some q) (hz : q.zero = some z)
    (hsize : q.size = size) (hby : q.bytes = bytes) (hzs : z.cells.size = size) (hsz : 0 < size)
    {ao : Option Addr} {n c : Nat} {xs : List Value} (hr : L[i]? = some (Pt.row ⟨E, size, ao, n, c, xs⟩)) (hs : a.eval s = .slice ao n c)
    (ad : Addr) (m c' : Nat) (hx : a.eval x = .slice (some ad) m c') (news : List Value) (hl : news.length = m * size) (hnews : ∀ j u, news[j]? = some u → w.cell? (ad.add j) = some u) (h1 : ∀ u ∈ news, u.oneCell' = true)
    (h63 : n + m ≤ maxLen) (hbytes : (n + m) * bytes ≤ 140737488355328)
    (hk : ∀ bo d w', Sp F0 w0 w' (L.set i (Pt.row ⟨E, size, bo, n + m, d, xs ++ news⟩)) → wpList P ops Q rest (a.put o.dst (.slice bo (n + m) d)) w') : wpList P ops Q (o :: rest) a w :=
  wpList_plain hgd fun _ hK => H.wp_append s x t ho E q z size bytes ht hi hz hsize hby hzs hsz hr hs ad m c' hx news hl hnews h1 h63 hbytes fun bo d w' h2 => hK _ _ (hk bo d w' h2)
/-- append of a list that is read to a row of integers. -/
theorem Sp.run_loc (H : Sp F0 w0 w L) (t ty E : TypeId) (q : TypeInfo) (ht : P.underlying t = some (.slice E)) (hi : P.info? E = some q) (hz : q.zero = some (.int .i64 0)) (hsize : q.size = 1) (hby : q.bytes = 8)
    {ao : Option Addr} {n c : Nat} {xs : List Int} (hr : L[i]? = some (Pt.ints E ao n c xs)) {la : Option Addr} {m lc : Nat} {zs : List Int} (hL : Ls w la m lc zs) (h63 : (n + m) * 8 ≤ 140737488351232) :
    ∃ bo d w', (Builtin.append_ #[t, t] ty #[.slice ao n c, .slice la m lc]).run P w = .ok (.slice bo (n + m) d) w' ∧ Sp F0 w0 w' (L.set i (Pt.ints E bo (n + m) d (xs ++ zs))) := by
  obtain ⟨F, hF, -, -, hh⟩ := H.hole hr
  obtain ⟨bo, d, w', g1, g2, g3, g4, g5⟩ := run_append_loc (P := P) w 0 t ty E q ht hi hz hsize hby _ n xs hF.2.1 hL (by omega) (Nat.zero_le _)
  refine ⟨bo, d, w', g1, hh w' _ (fun k => (Value.slice bo (n + m) d).ownBlock = some k) ⟨⟨h63, fun i => ?_⟩, g2, fun k => Iff.rfl⟩ (fun k hk => ?_) ((Out.refl F w).grown g3 fun k hk => .inl ((hF.2.2 k).2 hk))⟩
  · by_cases h : i < xs.length
    · have := hF.1.2 i; simpa [List.getD, List.getElem?_append_left h] using this
    · have := hL.rng (i - xs.length); simpa [List.getD, List.getElem?_append_right (Nat.le_of_not_lt h)] using this
  · rcases g4 k hk with g4 | g4
    · exact .inl ((hF.2.2 k).2 g4)
    · exact .inr (by omega)
theorem Sp.wp_loc (H : Sp F0 w0 w L) {o : Oper} {a : Act} {K : Act → World → Prop} {Q : Exit → Act → World → Prop} (s x : Operand) (t : TypeId)
    (ho : o.op = .call { callee := .builtin .append, args := #[s, x], argTypes := #[t, t] })
    (E : TypeId) (q : TypeInfo) (ht : P.underlying t = some (.slice E)) (hi : P.info? E = some q) (hz : q.zero = some (.int .i64 0)) (hsize : q.size = 1) (hby : q.bytes = 8)
    {ao : Option Addr} {n c : Nat} {xs : List Int} (hr : L[i]? = some (Pt.ints E ao n c xs)) (hs : a.eval s = .slice ao n c) {la : Option Addr} {m lc : Nat} {zs : List Int} (hx : a.eval x = .slice la m lc) (hL : Ls w la m lc zs) (h63 : (n + m) * 8 ≤ 140737488351232)
    (hk : ∀ bo d w', Sp F0 w0 w' (L.set i (Pt.ints E bo (n + m) d (xs ++ zs))) → K (a.put o.dst (.slice bo (n + m) d)) w') : o.wp P a w K Q := by
  obtain ⟨bo, d, w', hrun, h2⟩ := H.run_loc (P := P) t o.type E q ht hi hz hsize hby hr hL h63
  unfold Oper.wp execOp
  simp only [ho, resolve, invoke, builtin, Sem.run_bind, Sem.run_pure, Result.andThen_ok, List.map_toArray, List.map_cons, List.map_nil, hs, hx, hrun]
  exact hk bo d w' h2
theorem Sp.step_loc (H : Sp F0 w0 w L) {ops : Array Oper} {o : Oper} {a : Act} {K : Act → World → Prop} {Q : Exit → Act → World → Prop} {Z : Prop} (hgd : o.guard = none) (s x : Operand) (t : TypeId)
    (ho : o.op = .call { callee := .builtin .append, args := #[s, x], argTypes := #[t, t] })
    (E : TypeId) (q : TypeInfo) (ht : P.underlying t = some (.slice E)) (hi : P.info? E = some q) (hz : q.zero = some (.int .i64 0)) (hsize : q.size = 1) (hby : q.bytes = 8)
    {ao : Option Addr} {n c : Nat} {xs : List Int} (hr : L[i]? = some (Pt.ints E ao n c xs)) (hs : a.eval s = .slice ao n c) {la : Option Addr} {m lc : Nat} {zs : List Int} (hx : a.eval x = .slice la m lc) (hL : Ls w la m lc zs) (h63 : (n + m) * 8 ≤ 140737488351232)
    (hk : ∀ bo d w', Sp F0 w0 w' (L.set i (Pt.ints E bo (n + m) d (xs ++ zs))) → K (a.put o.dst (.slice bo (n + m) d)) w') :
    if Region.wanted o (yielded ops a.tmps) = true then Oper.wp P o a w K Q else Z := by
  have hw : Region.wanted o (yielded ops a.tmps) = true := by simp [Region.wanted, hgd]
  rw [if_pos hw]
  exact H.wp_loc s x t ho E q ht hi hz hsize hby hr hs hx hL h63 hk
theorem Sp.wpList_loc (H : Sp F0 w0 w L) {ops : Array Oper} {rest : List Oper} {o : Oper} {a : Act} {Q : Exit → Act → World → Prop} (hgd : o.guard = none) (s x : Operand) (t : TypeId)
    (ho : o.op = .call { callee := .builtin .append, args := #[s, x], argTypes := #[t, t] })
    (E : TypeId) (q : TypeInfo) (ht : P.underlying t = some (.slice E)) (hi : P.info? E = some q) (hz : q.zero = some (.int .i64 0)) (hsize : q.size = 1) (hby : q.bytes = 8)
    {ao : Option Addr} {n c : Nat} {xs : List Int} (hr : L[i]? = some (Pt.ints E ao n c xs)) (hs : a.eval s = .slice ao n c) {la : Option Addr} {m lc : Nat} {zs : List Int} (hx : a.eval x = .slice la m lc) (hL : Ls w la m lc zs) (h63 : (n + m) * 8 ≤ 140737488351232)
    (hk : ∀ bo d w', Sp F0 w0 w' (L.set i (Pt.ints E bo (n + m) d (xs ++ zs))) → wpList P ops Q rest (a.put o.dst (.slice bo (n + m) d)) w') : wpList P ops Q (o :: rest) a w :=
  wpList_plain hgd fun _ hK => H.wp_loc s x t ho E q ht hi hz hsize hby hr hs hx hL h63 fun bo d w' h2 => hK _ _ (hk bo d w' h2)
end
end
end Go.Proofs.Ytfmabpdkjhlihaa

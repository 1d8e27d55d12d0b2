/- What DigitFresh and MoldFresh ask of one call: again. -/
import Derived.Test.YtoippfoeghjdoaaGivesXY
import Derived.Deep.RegionHeld3
import Derived.Deep.Cut
import Derived.RowKit3
namespace Go.Proofs.Ytoippfoeghjdoaa
open Go.RowKit Go.Lib
set_option linter.unusedVariables false
set_option linter.unusedSimpArgs false
theorem frozen_past (w : World) (c : Array Value) (t : TypeId) (n i : Nat) (hn : n < w.heap.size) : (w.alloc (.cells c t)).frozen? ⟨n, i, none⟩ = w.frozen? ⟨n, i, none⟩ := frozen?_alloc_cells w c t _
attribute [local go_sem] alloc_drewN setCell_drewN frozen_past
theorem Qt.congr2 {R R' : Nat × Nat × Nat → Rw} {qb n J J' : Nat} {mu : Int} {va wa : Nat → Ar} {nm : Nat → Nat} (h : Qt R qb n mu va wa nm J) (hJ : J ≤ J') (hR : ∀ t, t.1 = 20 ∨ t.1 = 21 → R' t = R t) (h22 : ∀ a j, j < J → R' (22, a, j) = R (22, a, j)) : Qt R' qb n mu va wa nm J' := by
  refine ⟨?_, ?_, ?_, fun k hk => ?_, fun k hk => ?_, h.ok, h.s0, h.s1, h.nb, fun k hk => Nat.lt_of_lt_of_le (h.nz k hk) hJ⟩
  · rw [hR _ (.inl rfl), hR _ (.inl rfl), hR _ (.inl rfl)]; exact h.obj
  · rw [hR _ (.inl rfl)]; exact h.l1
  · rw [hR _ (.inl rfl)]; exact h.l2
  · rw [hR _ (.inr rfl), hR _ (.inr rfl)]; exact h.e1 k hk
  · rw [h22 _ _ (h.nz k hk), h22 _ _ (h.nz k hk)]; exact h.e2 k hk
/-- Rows that stand under some names, all others as before. -/
def putR (R : Nat × Nat × Nat → Rw) : List (Nat × Nat × Nat) → List Rw → Nat × Nat × Nat → Rw
  | t :: ts, r :: rs => fun s => if s = t then r else putR R ts rs s
  | _, _ => R
theorem putR_ne {R : Nat × Nat × Nat → Rw} : ∀ {ts : List (Nat × Nat × Nat)} {rs : List Rw} {t : Nat × Nat × Nat}, t ∉ ts → putR R ts rs t = R t
  | [], _, t, h => rfl
  | _ :: _, [], t, h => rfl
  | u :: ts, r :: rs, t, h => by
    simp only [List.mem_cons, not_or] at h
    show (if t = u then r else putR R ts rs t) = R t
    rw [if_neg h.1]
    exact putR_ne h.2
theorem putR_at {R : Nat × Nat × Nat → Rw} : ∀ {ts : List (Nat × Nat × Nat)} {rs : List Rw} (i : Nat) {t : Nat × Nat × Nat} {r : Rw}, ts.Nodup → ts[i]? = some t → rs[i]? = some r → putR R ts rs t = r
  | [], rs, i, t, r, _, h, _ => by simp at h
  | u :: ts, [], i, t, r, _, _, h => by simp at h
  | u :: ts, q :: rs, 0, t, r, _, h, h2 => by
    simp at h h2
    subst h h2
    exact if_pos rfl
  | u :: ts, q :: rs, i + 1, t, r, hn, h, h2 => by
    have hn' := List.nodup_cons.1 hn
    simp only [List.getElem?_cons_succ] at h h2
    have hm : t ∈ ts := List.mem_of_getElem? h
    show (if t = u then q else putR R ts rs t) = r
    rw [if_neg (fun e => hn'.1 (by rw [← e]; exact hm))]
    exact putR_at i hn'.2 h h2
theorem putR_or {R : Nat × Nat × Nat → Rw} : ∀ {ts : List (Nat × Nat × Nat)} {rs : List Rw} (t : Nat × Nat × Nat), ts.Nodup → ts.length = rs.length → (∃ (i : Nat) (r : Rw), ts[i]? = some t ∧ rs[i]? = some r ∧ putR R ts rs t = r) ∨ putR R ts rs t = R t := by
  intro ts rs t hn hl
  by_cases h : t ∈ ts
  · left
    obtain ⟨i, hi, e⟩ := List.getElem_of_mem h
    have e1 : ts[i]? = some t := by rw [List.getElem?_eq_getElem hi, e]
    have e2 : rs[i]? = some rs[i] := List.getElem?_eq_getElem (by omega)
    exact ⟨i, rs[i], e1, e2, putR_at i hn e1 e2⟩
  · exact .inr (putR_ne h)
theorem Sp.mapW {F0 : Nat → Prop} {w0 w : World} {L : List Pt} (H : Sp F0 w0 w L) (M : List Pt) (hl : M.length = L.length) (hs : ∀ (i : Nat) (A B : Pt), L[i]? = some A → M[i]? = some B → ∀ F, A.P w F → B.P w F) : Sp F0 w0 w M := by
  obtain ⟨Fs, h1, h2, h3, h4⟩ := H.pts
  refine ⟨H.out, Fs, fun i B e => ?_, h2, fun i k h => by rw [hl]; exact h3 i k h, h4⟩
  have hi : i < L.length := by rw [← hl]; exact (List.getElem?_eq_some_iff.1 e).1
  have e1 : L[i]? = some L[i] := List.getElem?_eq_getElem hi
  exact hs i _ _ e1 e _ (h1 i _ e1)
/-- What was made beside the rows that are held is held, too. -/
theorem Hold.ofSp {base : Nat} {w w' : World} {R : Nat × Nat × Nat → Rw} (h : Hold base w R) {rs : List Rw} (H : Sp Non w w' (rs.map Pt.row)) (ts : List (Nat × Nat × Nat)) (hn : ts.Nodup) (hl : ts.length = rs.length) : Hold base w' (putR R ts rs) := by
  have hb := H.belowN
  obtain ⟨Fs, h1, h2, h3, h4⟩ := H.pts
  have hrow : ∀ (i : Nat) (r : Rw), rs[i]? = some r → r.own w' 0 ∧ ∀ k, Fs i k ↔ r.v.ownBlock = some k := fun i r e => h1 i (Pt.row r) (by rw [List.getElem?_map, e]; rfl)
  have hnew : ∀ (i : Nat) (r : Rw), rs[i]? = some r → ∀ g, r.v.ownBlock = some g → w.heap.size ≤ g := fun i r e g hg => by
    rcases h4 i g (((hrow i r e).2 g).2 hg) with q | q
    · exact q.elim
    · exact q
  refine ⟨fun t => ?_, fun t s hts g ht hs => ?_, Nat.le_trans h.base hb.size⟩
  · rcases putR_or (R := R) t hn hl with ⟨i, r, -, e2, e3⟩ | e
    · rw [e3]
      exact (hrow i r e2).1.base fun g hg => Nat.le_trans h.base (hnew i r e2 g hg)
    · rw [e]; exact (h.own t).via hb
  · rcases putR_or (R := R) t hn hl with ⟨i, r, e1, e2, e3⟩ | e <;> rcases putR_or (R := R) s hn hl with ⟨j, r', f1, f2, f3⟩ | f
    · rw [e3] at ht
      rw [f3] at hs
      have hij : i ≠ j := fun q => hts (by rw [q] at e1; rw [e1] at f1; cases f1; rfl)
      exact h2 i j g hij (((hrow i r e2).2 g).2 ht) (((hrow j r' f2).2 g).2 hs)
    · rw [e3] at ht
      rw [f] at hs
      have q1 := hnew i r e2 g ht
      have q2 := ((h.own s).lt hs).2
      omega
    · rw [e] at ht
      rw [f3] at hs
      have q1 := hnew j r' f2 g hs
      have q2 := ((h.own t).lt ht).2
      omega
    · rw [e] at ht
      rw [f] at hs
      exact h.dis t s hts g ht hs
/-- Answers are not long. -/
structure Fit (mon : Int → List Int → List Int → List Int × List Int × Int) (dya : Int → List Int → List Int → List Int → List Int → List Int × List Int × Int) : Prop where
  m : ∀ op t b, t.length ≤ 4194304 → b.length ≤ 4194304 → (mon op t b).1.length ≤ 4194304 ∧ (mon op t b).2.1.length ≤ 4194304
  d : ∀ op s a t b, s.length ≤ 4194304 → a.length ≤ 4194304 → t.length ≤ 4194304 → b.length ≤ 4194304 → (dya op s a t b).1.length ≤ 4194304 ∧ (dya op s a t b).2.1.length ≤ 4194304
theorem Fit.giv {mon : Int → List Int → List Int → List Int × List Int × Int} {dya : Int → List Int → List Int → List Int → List Int → List Int × List Int × Int} (h : Fit mon dya) (k op : Int) {s a t b : List Int} (h1 : s.length ≤ 4194304) (h2 : a.length ≤ 4194304) (h3 : t.length ≤ 4194304) (h4 : b.length ≤ 4194304) :
    (givS mon dya k op s a t b).1.length ≤ 4194304 ∧ (givS mon dya k op s a t b).2.1.length ≤ 4194304 := by
  unfold givS
  split
  · exact h.m op t b h3 h4
  · exact h.d op s a t b h1 h2 h3 h4
/-- Behind again. -/
def AgP (base : Nat) (w : World) (R : Nat × Nat × Nat → Rw) (qb J : Nat) (mu : Int) (wx : World) : Prop :=
  ∃ (n' : Nat) (mu' : Int) (va' wa' : Nat → Ar) (nm' : Nat → Nat) (R' : Nat × Nat × Nat → Rw), Hold base wx R' ∧ Qt R' qb n' mu' va' wa' nm' (J + 2) ∧ (∀ t, t.1 ≠ 20 → t.1 ≠ 21 → t.1 ≠ 22 → t.1 ≠ 40 → t.1 ≠ 42 → t.1 ≠ 44 → R' t = R t) ∧ Below base w wx ∧ mu' ≤ mu + 754977120
/-- A number with its lowest bit turned. -/
def xo (x : Int) : Int := bits BinOp.xor IntKind.i64 x 1
theorem xo_rng (x : Int) : -9223372036854775808 ≤ xo x ∧ xo x ≤ 9223372036854775807 := by
  show -9223372036854775808 ≤ IntKind.i64.wrap ((BitVec.ofInt 64 x ^^^ BitVec.ofInt 64 1).toNat : Nat) ∧ IntKind.i64.wrap ((BitVec.ofInt 64 x ^^^ BitVec.ofInt 64 1).toNat : Nat) ≤ 9223372036854775807
  rw [IntKind.wrap_i64]
  omega
def xorL (i : Nat) (a : List Int) : List Int := (a.take i).map xo ++ a.drop i
theorem xorL_0 (a : List Int) : xorL 0 a = a := rfl
theorem xorL_end {a : List Int} {n : Nat} (h : a.length = n) : xorL n a = a.map xo := by simp [xorL, ← h]
theorem xorL_len (i : Nat) (a : List Int) : (xorL i a).length = a.length := by simp [xorL]; omega
theorem xorL_get {i : Nat} {a : List Int} (h : i < a.length) : (xorL i a)[i]? = some (a.getD i 0) := by
  unfold xorL
  rw [List.getElem?_append_right (by simp; omega), List.getElem?_drop]
  have e : i + (i - ((a.take i).map xo).length) = i := by simp; omega
  rw [e, List.getElem?_eq_getElem h]
  simp [List.getD, List.getElem?_eq_getElem h]
theorem xorL_set {i : Nat} {a : List Int} (h : i < a.length) : (xorL i a).set i (xo (a.getD i 0)) = xorL (i + 1) a := by
  unfold xorL
  have e : ((a.take i).map xo).length = i := by simp; omega
  rw [List.set_append_right _ _ (by omega), e, Nat.sub_self, List.drop_eq_getElem_cons h, List.set_cons_zero]
  have e2 : a.getD i 0 = a[i] := by simp [List.getD, List.getElem?_eq_getElem h]
  rw [e2, List.take_add_one, List.getElem?_eq_getElem h, List.map_append, List.append_assoc]
  rfl
theorem map_rng (a : List Int) (i : Nat) : -9223372036854775808 ≤ (a.map xo).getD i 0 ∧ (a.map xo).getD i 0 ≤ 9223372036854775807 := by
  rw [List.getD_eq_getElem?_getD, List.getElem?_map]
  cases a[i]? with
  | none => simp
  | some x => exact xo_rng x
/-- Two boxes lie in two blocks. -/
theorem Sp.rne {F0 : Nat → Prop} {w0 w : World} {L : List Pt} (H : Sp F0 w0 w L) {i j : Nat} (hij : i ≠ j) {E E2 : TypeId} {sz sz2 g g2 n n2 c c2 : Nat} {xs ys : List Value} (e : L[i]? = some (Pt.row ⟨E, sz, some ⟨g, 0, none⟩, n, c, xs⟩)) (e2 : L[j]? = some (Pt.row ⟨E2, sz2, some ⟨g2, 0, none⟩, n2, c2, ys⟩)) : ¬ g = g2 := by
  obtain ⟨F, G, hF, hG, hd⟩ := H.two e hij e2
  intro h
  exact hd g ((hF.2 g).2 rfl) ((hG.2 g).2 (by rw [h]; rfl))
section
variable {has : Int → Int → Bool} {mon : Int → List Int → List Int → List Int × List Int × Int} {dya : Int → List Int → List Int → List Int → List Int → List Int × List Int × Int}
set_option maxRecDepth 100000 in
set_option maxHeartbeats 12800000 in
theorem again8_any (PK : Pkg8 has mon dya) {base : Nat} {w : World} {R : Nat × Nat × Nat → Rw} {qb n J : Nat} {mu : Int} {va wa : Nat → Ar} {nm : Nat → Nat} (H : Hold base w R) (B : Qt R qb n mu va wa nm J)
    (FT : Fit mon dya) (hmu : mu ≤ 2305843009213693952) {o : Opv} (hX : o.x.Is w) (hY : o.y.Is w) (hfit : o.x.sn ≤ 4194304 ∧ o.x.an ≤ 4194304 ∧ o.y.sn ≤ 4194304 ∧ o.y.an ≤ 4194304) :
    Calls Try.prog 18 #[.pointer (some ⟨qb, 0, none⟩), .agg o.cells] w (fun e w' => e = .returned (.bool true) ∧ AgP base w R qb J mu w') := by
  obtain ⟨kk, op, nn, ⟨sa, sn, sc, aa, an, ac, s, a⟩, ⟨ta, tn, tc, ba, bn, bc, t, b⟩⟩ := o
  simp only [Opv.cells]
  simp only at hX hY hfit
  have HLN : Hid (s.length ≤ 4194304 ∧ a.length ≤ 4194304 ∧ t.length ≤ 4194304 ∧ b.length ≤ 4194304) := ⟨by rw [hX.shp.len]; exact hfit.1, by rw [hX.ats.len]; exact hfit.2.1, by rw [hY.shp.len]; exact hfit.2.2.1, by rw [hY.ats.len]; exact hfit.2.2.2⟩
  have HB := Lib.hid B
  have HH := Lib.hid H
  have HFT := Lib.hid FT
  have HPK := Lib.hid PK
  have CX := Lib.hid (fun (w1 : World) (h : Below w.heap.size w w1) => copy4_any (hX.below h (Nat.le_refl _)))
  have CY := Lib.hid (fun (w1 : World) (h : Below w.heap.size w w1) => copy4_any (hY.below h (Nat.le_refl _)))
  simp only [Ar.v] at CX CY
  obtain ⟨W0, HW0⟩ : ∃ z, Hid (w.alloc (.cells #[.int .i64 kk, .int .i64 op, .int .i64 nn, .slice sa sn sc, .slice aa an ac, .slice ta tn tc, .slice ba bn bc] 40) = z) := ⟨_, rfl⟩
  have h0 := (Sp.start Non w).alloc 40 7 1 #[.int .i64 kk, .int .i64 op, .int .i64 nn, .slice sa sn sc, .slice aa an ac, .slice ta tn tc, .slice ba bn bc] rfl (by decide)
  obtain ⟨g, HG⟩ : ∃ z, Hid (w.heap.size = z) := ⟨_, rfl⟩
  rw [HW0.out, HG.out] at h0
  have H1_ := h0
  try simp only [List.cons_append, List.nil_append, List.set_cons_zero, List.set_cons_succ, List.map_cons, List.map_nil, List.getD_cons_zero, List.getD_cons_succ, World.size_alloc] at H1_
  have H1 := Lib.hid H1_
  clear H1_
  have p3 := H1.out.cell (i := 0) rfl 3 _ rfl
  have p4 := H1.out.cell (i := 0) rfl 4 _ rfl
  have p5 := H1.out.cell (i := 0) rfl 5 _ rfl
  have p6 := H1.out.cell (i := 0) rfl 6 _ rfl
  have hgl := (H1.out.rlt (i := 0) rfl).1
  have y1 : ¬ g = W0.heap.size := by omega
  have y2 : ¬ W0.heap.size = g := by omega
  have y3 : ¬ g = W0.heap.size + 1 := by omega
  have y4 : ¬ W0.heap.size + 1 = g := by omega
  clear h0 hX hY PK hgl H B FT hfit
  go_enter Try.func18, Try.ntmps18
  go_upto_region 1 with fail
  rw [HW0.out, HG.out]
  go_upto_region 1 with fail
  go_cut [5, 6] from 15 to 20 (fun v5 v6 wx => ∃ (g5 g6 : Nat) (X Y : Ar), v5 = .pointer (some ⟨g5, 0, none⟩) ∧ v6 = .pointer (some ⟨g6, 0, none⟩) ∧ Hid (Sp Non w wx [Pt.row ⟨40, 7, some ⟨g, 0, none⟩, 1, 1, [.int .i64 kk, .int .i64 op, .int .i64 nn, .slice sa sn sc, .slice aa an ac, .slice ta tn tc, .slice ba bn bc]⟩, Pt.arr X, Pt.arr Y, Pt.row ⟨38, 2, some ⟨g5, 0, none⟩, 1, 1, [.slice X.sa X.sn X.sc, .slice X.aa X.an X.ac]⟩, Pt.row ⟨38, 2, some ⟨g6, 0, none⟩, 1, 1, [.slice Y.sa Y.sn Y.sc, .slice Y.aa Y.an Y.ac]⟩]) ∧ Hid (X.s = s ∧ X.a = a ∧ Y.s = t ∧ Y.a = b))
  case first =>
    go_region_held3 (fun v => v.cell? ⟨g, 3, none⟩ = some (.slice sa sn sc) ∧ v.cell? ⟨g, 4, none⟩ = some (.slice aa an ac) ∧ v.cell? ⟨g, 5, none⟩ = some (.slice ta tn tc) ∧ v.cell? ⟨g, 6, none⟩ = some (.slice ba bn bc)) (go_keep)
      (first
      | (go_at_call 14; (with_reducible refine Calls.mono (CX.out _ (H1.out.via (adrew1 _)).belowN) ?_); rintro e w1 ⟨⟨sa1, sn1, sc1, aa1, an1, ac1, s1, a1⟩, rfl, hI, hs, ha, hO, hq⟩; have HV1 := Lib.hid (And.intro hs ha); simp only [Ar.v]; have H1_0 : Hid (Sp Non w w1 [Pt.row ⟨40, 7, some ⟨g, 0, none⟩, 1, 1, [.int .i64 kk, .int .i64 op, .int .i64 nn, .slice sa sn sc, .slice aa an ac, .slice ta tn tc, .slice ba bn bc]⟩, Pt.arr ⟨sa1, sn1, sc1, aa1, an1, ac1, s1, a1⟩]) := ((H1.out.via (adrew1 _)).arrNew hI hO hq).pick [0, 1] (by decide); clear hI hs ha hO hq; clear p3 p4 p5 p6; have p3 := H1_0.out.cell (i := 0) rfl 3 _ rfl; have p4 := H1_0.out.cell (i := 0) rfl 4 _ rfl; have p5 := H1_0.out.cell (i := 0) rfl 5 _ rfl; have p6 := H1_0.out.cell (i := 0) rfl 6 _ rfl; have yl := (H1_0.out.rlt (i := 0) rfl).1; have yn : ¬ g = w1.heap.size := Nat.ne_of_lt yl; have ym : ¬ w1.heap.size = g := (Nat.ne_of_lt yl).symm; clear yl)
      | (go_at_call 14; (with_reducible refine Calls.mono (CX.out _ ((H1.out.alloc 38 2 1 #[.slice none 0 0, .slice none 0 0] rfl (by decide)).via (adrew1 _)).belowN) ?_); rintro e w1 ⟨⟨sa1, sn1, sc1, aa1, an1, ac1, s1, a1⟩, rfl, hI, hs, ha, hO, hq⟩; have HV1 := Lib.hid (And.intro hs ha); simp only [Ar.v]; have H1_1 : Hid (Sp Non w w1 [Pt.row ⟨40, 7, some ⟨g, 0, none⟩, 1, 1, [.int .i64 kk, .int .i64 op, .int .i64 nn, .slice sa sn sc, .slice aa an ac, .slice ta tn tc, .slice ba bn bc]⟩, Pt.arr ⟨sa1, sn1, sc1, aa1, an1, ac1, s1, a1⟩, Pt.row ⟨38, 2, some ⟨_, 0, none⟩, 1, 1, [.slice none 0 0, .slice none 0 0]⟩]) := (((H1.out.alloc 38 2 1 #[.slice none 0 0, .slice none 0 0] rfl (by decide)).via (adrew1 _)).arrNew hI hO hq).pick [0, 2, 1] (by decide); clear hI hs ha hO hq; clear p3 p4 p5 p6; have p3 := H1_1.out.cell (i := 0) rfl 3 _ rfl; have p4 := H1_1.out.cell (i := 0) rfl 4 _ rfl; have p5 := H1_1.out.cell (i := 0) rfl 5 _ rfl; have p6 := H1_1.out.cell (i := 0) rfl 6 _ rfl; have yl := (H1_1.out.rlt (i := 0) rfl).1; have yn : ¬ g = w1.heap.size := Nat.ne_of_lt yl; have ym : ¬ w1.heap.size = g := (Nat.ne_of_lt yl).symm; clear yl; have x00 := H1_1.out.cell (i := 2) rfl 0 _ rfl; have x01 := H1_1.out.cell (i := 2) rfl 1 _ rfl; have x02 := H1_1.out.frozen (i := 2) rfl 0; have x03 := H1_1.out.frozen (i := 2) rfl 1; have xl0 := (H1_1.out.rlt (i := 2) rfl).1; have xn0 : ¬ _ = w1.heap.size := Nat.ne_of_lt xl0; have xm0 : ¬ w1.heap.size = _ := (Nat.ne_of_lt xl0).symm; have xg0 := H1_1.out.rne (i := 0) (j := 2) (by decide) rfl rfl; have xh0 := H1_1.out.rne (i := 2) (j := 0) (by decide) rfl rfl)
      | (go_at_call 14; (with_reducible refine Calls.mono (CX.out _ (((H1.out.alloc 38 2 1 #[.slice none 0 0, .slice none 0 0] rfl (by decide)).alloc 38 2 1 #[.slice none 0 0, .slice none 0 0] rfl (by decide)).via (adrew1 _)).belowN) ?_); rintro e w1 ⟨⟨sa1, sn1, sc1, aa1, an1, ac1, s1, a1⟩, rfl, hI, hs, ha, hO, hq⟩; have HV1 := Lib.hid (And.intro hs ha); simp only [Ar.v]; have H1_2 : Hid (Sp Non w w1 [Pt.row ⟨40, 7, some ⟨g, 0, none⟩, 1, 1, [.int .i64 kk, .int .i64 op, .int .i64 nn, .slice sa sn sc, .slice aa an ac, .slice ta tn tc, .slice ba bn bc]⟩, Pt.arr ⟨sa1, sn1, sc1, aa1, an1, ac1, s1, a1⟩, Pt.row ⟨38, 2, some ⟨_, 0, none⟩, 1, 1, [.slice none 0 0, .slice none 0 0]⟩, Pt.row ⟨38, 2, some ⟨_, 0, none⟩, 1, 1, [.slice none 0 0, .slice none 0 0]⟩]) := ((((H1.out.alloc 38 2 1 #[.slice none 0 0, .slice none 0 0] rfl (by decide)).alloc 38 2 1 #[.slice none 0 0, .slice none 0 0] rfl (by decide)).via (adrew1 _)).arrNew hI hO hq).pick [0, 3, 1, 2] (by decide); simp only [World.size_alloc] at H1_2; clear hI hs ha hO hq; clear p3 p4 p5 p6; have p3 := H1_2.out.cell (i := 0) rfl 3 _ rfl; have p4 := H1_2.out.cell (i := 0) rfl 4 _ rfl; have p5 := H1_2.out.cell (i := 0) rfl 5 _ rfl; have p6 := H1_2.out.cell (i := 0) rfl 6 _ rfl; have yl := (H1_2.out.rlt (i := 0) rfl).1; have yn : ¬ g = w1.heap.size := Nat.ne_of_lt yl; have ym : ¬ w1.heap.size = g := (Nat.ne_of_lt yl).symm; clear yl; have x00 := H1_2.out.cell (i := 2) rfl 0 _ rfl; have x01 := H1_2.out.cell (i := 2) rfl 1 _ rfl; have x02 := H1_2.out.frozen (i := 2) rfl 0; have x03 := H1_2.out.frozen (i := 2) rfl 1; have xl0 := (H1_2.out.rlt (i := 2) rfl).1; have xn0 : ¬ _ = w1.heap.size := Nat.ne_of_lt xl0; have xm0 : ¬ w1.heap.size = _ := (Nat.ne_of_lt xl0).symm; have xg0 := H1_2.out.rne (i := 0) (j := 2) (by decide) rfl rfl; have xh0 := H1_2.out.rne (i := 2) (j := 0) (by decide) rfl rfl; have x10 := H1_2.out.cell (i := 3) rfl 0 _ rfl; have x11 := H1_2.out.cell (i := 3) rfl 1 _ rfl; have x12 := H1_2.out.frozen (i := 3) rfl 0; have x13 := H1_2.out.frozen (i := 3) rfl 1; have xl1 := (H1_2.out.rlt (i := 3) rfl).1; have xn1 : ¬ _ = w1.heap.size := Nat.ne_of_lt xl1; have xm1 : ¬ w1.heap.size = _ := (Nat.ne_of_lt xl1).symm; have xg1 := H1_2.out.rne (i := 0) (j := 3) (by decide) rfl rfl; have xh1 := H1_2.out.rne (i := 3) (j := 0) (by decide) rfl rfl; have xb0 := H1_2.out.rne (i := 2) (j := 3) (by decide) rfl rfl; have xb1 := H1_2.out.rne (i := 3) (j := 2) (by decide) rfl rfl)
      | (have hreq := H1_0; go_at_call 14; (with_reducible refine Calls.mono (CY.out _ H1_0.out.belowN) ?_); rintro e w2 ⟨⟨sa2, sn2, sc2, aa2, an2, ac2, s2, a2⟩, rfl, hI, hs, ha, hO, hq⟩; have HV2 := Lib.hid (And.intro hs ha); simp only [Ar.v]; have H2_0 : Hid (Sp Non w w2 [Pt.row ⟨40, 7, some ⟨g, 0, none⟩, 1, 1, [.int .i64 kk, .int .i64 op, .int .i64 nn, .slice sa sn sc, .slice aa an ac, .slice ta tn tc, .slice ba bn bc]⟩, Pt.arr ⟨sa1, sn1, sc1, aa1, an1, ac1, s1, a1⟩, Pt.arr ⟨sa2, sn2, sc2, aa2, an2, ac2, s2, a2⟩]) := (H1_0.out.arrNew hI hO hq).pick [0, 1, 2] (by decide); clear hreq hI hs ha hO hq yn ym; clear p3 p4 p5 p6; have p3 := H2_0.out.cell (i := 0) rfl 3 _ rfl; have p4 := H2_0.out.cell (i := 0) rfl 4 _ rfl; have p5 := H2_0.out.cell (i := 0) rfl 5 _ rfl; have p6 := H2_0.out.cell (i := 0) rfl 6 _ rfl; have yl := (H2_0.out.rlt (i := 0) rfl).1; have yn : ¬ g = w2.heap.size := Nat.ne_of_lt yl; have ym : ¬ w2.heap.size = g := (Nat.ne_of_lt yl).symm; clear yl; clear H1_0)
      | (have hreq := H1_0; go_at_call 14; (with_reducible refine Calls.mono (CY.out _ (H1_0.out.alloc 38 2 1 #[.slice none 0 0, .slice none 0 0] rfl (by decide)).belowN) ?_); rintro e w2 ⟨⟨sa2, sn2, sc2, aa2, an2, ac2, s2, a2⟩, rfl, hI, hs, ha, hO, hq⟩; have HV2 := Lib.hid (And.intro hs ha); simp only [Ar.v]; have H2_1 : Hid (Sp Non w w2 [Pt.row ⟨40, 7, some ⟨g, 0, none⟩, 1, 1, [.int .i64 kk, .int .i64 op, .int .i64 nn, .slice sa sn sc, .slice aa an ac, .slice ta tn tc, .slice ba bn bc]⟩, Pt.arr ⟨sa1, sn1, sc1, aa1, an1, ac1, s1, a1⟩, Pt.arr ⟨sa2, sn2, sc2, aa2, an2, ac2, s2, a2⟩, Pt.row ⟨38, 2, some ⟨_, 0, none⟩, 1, 1, [.slice none 0 0, .slice none 0 0]⟩]) := ((H1_0.out.alloc 38 2 1 #[.slice none 0 0, .slice none 0 0] rfl (by decide)).arrNew hI hO hq).pick [0, 1, 3, 2] (by decide); clear hreq hI hs ha hO hq yn ym; clear p3 p4 p5 p6; have p3 := H2_1.out.cell (i := 0) rfl 3 _ rfl; have p4 := H2_1.out.cell (i := 0) rfl 4 _ rfl; have p5 := H2_1.out.cell (i := 0) rfl 5 _ rfl; have p6 := H2_1.out.cell (i := 0) rfl 6 _ rfl; have yl := (H2_1.out.rlt (i := 0) rfl).1; have yn : ¬ g = w2.heap.size := Nat.ne_of_lt yl; have ym : ¬ w2.heap.size = g := (Nat.ne_of_lt yl).symm; clear yl; have x00 := H2_1.out.cell (i := 3) rfl 0 _ rfl; have x01 := H2_1.out.cell (i := 3) rfl 1 _ rfl; have x02 := H2_1.out.frozen (i := 3) rfl 0; have x03 := H2_1.out.frozen (i := 3) rfl 1; have xl0 := (H2_1.out.rlt (i := 3) rfl).1; have xn0 : ¬ _ = w2.heap.size := Nat.ne_of_lt xl0; have xm0 : ¬ w2.heap.size = _ := (Nat.ne_of_lt xl0).symm; have xg0 := H2_1.out.rne (i := 0) (j := 3) (by decide) rfl rfl; have xh0 := H2_1.out.rne (i := 3) (j := 0) (by decide) rfl rfl; clear H1_0)
      | (have hreq := H1_0; go_at_call 14; (with_reducible refine Calls.mono (CY.out _ ((H1_0.out.alloc 38 2 1 #[.slice none 0 0, .slice none 0 0] rfl (by decide)).alloc 38 2 1 #[.slice none 0 0, .slice none 0 0] rfl (by decide)).belowN) ?_); rintro e w2 ⟨⟨sa2, sn2, sc2, aa2, an2, ac2, s2, a2⟩, rfl, hI, hs, ha, hO, hq⟩; have HV2 := Lib.hid (And.intro hs ha); simp only [Ar.v]; have H2_2 : Hid (Sp Non w w2 [Pt.row ⟨40, 7, some ⟨g, 0, none⟩, 1, 1, [.int .i64 kk, .int .i64 op, .int .i64 nn, .slice sa sn sc, .slice aa an ac, .slice ta tn tc, .slice ba bn bc]⟩, Pt.arr ⟨sa1, sn1, sc1, aa1, an1, ac1, s1, a1⟩, Pt.arr ⟨sa2, sn2, sc2, aa2, an2, ac2, s2, a2⟩, Pt.row ⟨38, 2, some ⟨_, 0, none⟩, 1, 1, [.slice none 0 0, .slice none 0 0]⟩, Pt.row ⟨38, 2, some ⟨_, 0, none⟩, 1, 1, [.slice none 0 0, .slice none 0 0]⟩]) := (((H1_0.out.alloc 38 2 1 #[.slice none 0 0, .slice none 0 0] rfl (by decide)).alloc 38 2 1 #[.slice none 0 0, .slice none 0 0] rfl (by decide)).arrNew hI hO hq).pick [0, 1, 4, 2, 3] (by decide); simp only [World.size_alloc] at H2_2; clear hreq hI hs ha hO hq yn ym; clear p3 p4 p5 p6; have p3 := H2_2.out.cell (i := 0) rfl 3 _ rfl; have p4 := H2_2.out.cell (i := 0) rfl 4 _ rfl; have p5 := H2_2.out.cell (i := 0) rfl 5 _ rfl; have p6 := H2_2.out.cell (i := 0) rfl 6 _ rfl; have yl := (H2_2.out.rlt (i := 0) rfl).1; have yn : ¬ g = w2.heap.size := Nat.ne_of_lt yl; have ym : ¬ w2.heap.size = g := (Nat.ne_of_lt yl).symm; clear yl; have x00 := H2_2.out.cell (i := 3) rfl 0 _ rfl; have x01 := H2_2.out.cell (i := 3) rfl 1 _ rfl; have x02 := H2_2.out.frozen (i := 3) rfl 0; have x03 := H2_2.out.frozen (i := 3) rfl 1; have xl0 := (H2_2.out.rlt (i := 3) rfl).1; have xn0 : ¬ _ = w2.heap.size := Nat.ne_of_lt xl0; have xm0 : ¬ w2.heap.size = _ := (Nat.ne_of_lt xl0).symm; have xg0 := H2_2.out.rne (i := 0) (j := 3) (by decide) rfl rfl; have xh0 := H2_2.out.rne (i := 3) (j := 0) (by decide) rfl rfl; have x10 := H2_2.out.cell (i := 4) rfl 0 _ rfl; have x11 := H2_2.out.cell (i := 4) rfl 1 _ rfl; have x12 := H2_2.out.frozen (i := 4) rfl 0; have x13 := H2_2.out.frozen (i := 4) rfl 1; have xl1 := (H2_2.out.rlt (i := 4) rfl).1; have xn1 : ¬ _ = w2.heap.size := Nat.ne_of_lt xl1; have xm1 : ¬ w2.heap.size = _ := (Nat.ne_of_lt xl1).symm; have xg1 := H2_2.out.rne (i := 0) (j := 4) (by decide) rfl rfl; have xh1 := H2_2.out.rne (i := 4) (j := 0) (by decide) rfl rfl; have xb0 := H2_2.out.rne (i := 3) (j := 4) (by decide) rfl rfl; have xb1 := H2_2.out.rne (i := 4) (j := 3) (by decide) rfl rfl; clear H1_0)
      | (have hreq := H1_1; go_at_call 14; (with_reducible refine Calls.mono (CY.out _ H1_1.out.belowN) ?_); rintro e w2 ⟨⟨sa2, sn2, sc2, aa2, an2, ac2, s2, a2⟩, rfl, hI, hs, ha, hO, hq⟩; have HV2 := Lib.hid (And.intro hs ha); simp only [Ar.v]; have H2_1 : Hid (Sp Non w w2 [Pt.row ⟨40, 7, some ⟨g, 0, none⟩, 1, 1, [.int .i64 kk, .int .i64 op, .int .i64 nn, .slice sa sn sc, .slice aa an ac, .slice ta tn tc, .slice ba bn bc]⟩, Pt.arr ⟨sa1, sn1, sc1, aa1, an1, ac1, s1, a1⟩, Pt.arr ⟨sa2, sn2, sc2, aa2, an2, ac2, s2, a2⟩, Pt.row ⟨38, 2, some ⟨_, 0, none⟩, 1, 1, [.slice none 0 0, .slice none 0 0]⟩]) := (H1_1.out.arrNew hI hO hq).pick [0, 1, 3, 2] (by decide); clear hreq x00 x01 x02 x03 xn0 xm0 xl0 xg0 xh0 hI hs ha hO hq yn ym; clear p3 p4 p5 p6; have p3 := H2_1.out.cell (i := 0) rfl 3 _ rfl; have p4 := H2_1.out.cell (i := 0) rfl 4 _ rfl; have p5 := H2_1.out.cell (i := 0) rfl 5 _ rfl; have p6 := H2_1.out.cell (i := 0) rfl 6 _ rfl; have yl := (H2_1.out.rlt (i := 0) rfl).1; have yn : ¬ g = w2.heap.size := Nat.ne_of_lt yl; have ym : ¬ w2.heap.size = g := (Nat.ne_of_lt yl).symm; clear yl; have x00 := H2_1.out.cell (i := 3) rfl 0 _ rfl; have x01 := H2_1.out.cell (i := 3) rfl 1 _ rfl; have x02 := H2_1.out.frozen (i := 3) rfl 0; have x03 := H2_1.out.frozen (i := 3) rfl 1; have xl0 := (H2_1.out.rlt (i := 3) rfl).1; have xn0 : ¬ _ = w2.heap.size := Nat.ne_of_lt xl0; have xm0 : ¬ w2.heap.size = _ := (Nat.ne_of_lt xl0).symm; have xg0 := H2_1.out.rne (i := 0) (j := 3) (by decide) rfl rfl; have xh0 := H2_1.out.rne (i := 3) (j := 0) (by decide) rfl rfl; clear H1_1)
      | (have hreq := H1_1; go_at_call 14; (with_reducible refine Calls.mono (CY.out _ (H1_1.out.alloc 38 2 1 #[.slice none 0 0, .slice none 0 0] rfl (by decide)).belowN) ?_); rintro e w2 ⟨⟨sa2, sn2, sc2, aa2, an2, ac2, s2, a2⟩, rfl, hI, hs, ha, hO, hq⟩; have HV2 := Lib.hid (And.intro hs ha); simp only [Ar.v]; have H2_2 : Hid (Sp Non w w2 [Pt.row ⟨40, 7, some ⟨g, 0, none⟩, 1, 1, [.int .i64 kk, .int .i64 op, .int .i64 nn, .slice sa sn sc, .slice aa an ac, .slice ta tn tc, .slice ba bn bc]⟩, Pt.arr ⟨sa1, sn1, sc1, aa1, an1, ac1, s1, a1⟩, Pt.arr ⟨sa2, sn2, sc2, aa2, an2, ac2, s2, a2⟩, Pt.row ⟨38, 2, some ⟨_, 0, none⟩, 1, 1, [.slice none 0 0, .slice none 0 0]⟩, Pt.row ⟨38, 2, some ⟨_, 0, none⟩, 1, 1, [.slice none 0 0, .slice none 0 0]⟩]) := ((H1_1.out.alloc 38 2 1 #[.slice none 0 0, .slice none 0 0] rfl (by decide)).arrNew hI hO hq).pick [0, 1, 4, 2, 3] (by decide); clear hreq x00 x01 x02 x03 xn0 xm0 xl0 xg0 xh0 hI hs ha hO hq yn ym; clear p3 p4 p5 p6; have p3 := H2_2.out.cell (i := 0) rfl 3 _ rfl; have p4 := H2_2.out.cell (i := 0) rfl 4 _ rfl; have p5 := H2_2.out.cell (i := 0) rfl 5 _ rfl; have p6 := H2_2.out.cell (i := 0) rfl 6 _ rfl; have yl := (H2_2.out.rlt (i := 0) rfl).1; have yn : ¬ g = w2.heap.size := Nat.ne_of_lt yl; have ym : ¬ w2.heap.size = g := (Nat.ne_of_lt yl).symm; clear yl; have x00 := H2_2.out.cell (i := 3) rfl 0 _ rfl; have x01 := H2_2.out.cell (i := 3) rfl 1 _ rfl; have x02 := H2_2.out.frozen (i := 3) rfl 0; have x03 := H2_2.out.frozen (i := 3) rfl 1; have xl0 := (H2_2.out.rlt (i := 3) rfl).1; have xn0 : ¬ _ = w2.heap.size := Nat.ne_of_lt xl0; have xm0 : ¬ w2.heap.size = _ := (Nat.ne_of_lt xl0).symm; have xg0 := H2_2.out.rne (i := 0) (j := 3) (by decide) rfl rfl; have xh0 := H2_2.out.rne (i := 3) (j := 0) (by decide) rfl rfl; have x10 := H2_2.out.cell (i := 4) rfl 0 _ rfl; have x11 := H2_2.out.cell (i := 4) rfl 1 _ rfl; have x12 := H2_2.out.frozen (i := 4) rfl 0; have x13 := H2_2.out.frozen (i := 4) rfl 1; have xl1 := (H2_2.out.rlt (i := 4) rfl).1; have xn1 : ¬ _ = w2.heap.size := Nat.ne_of_lt xl1; have xm1 : ¬ w2.heap.size = _ := (Nat.ne_of_lt xl1).symm; have xg1 := H2_2.out.rne (i := 0) (j := 4) (by decide) rfl rfl; have xh1 := H2_2.out.rne (i := 4) (j := 0) (by decide) rfl rfl; have xb0 := H2_2.out.rne (i := 3) (j := 4) (by decide) rfl rfl; have xb1 := H2_2.out.rne (i := 4) (j := 3) (by decide) rfl rfl; clear H1_1)
      | (have hreq := H1_2; go_at_call 14; (with_reducible refine Calls.mono (CY.out _ H1_2.out.belowN) ?_); rintro e w2 ⟨⟨sa2, sn2, sc2, aa2, an2, ac2, s2, a2⟩, rfl, hI, hs, ha, hO, hq⟩; have HV2 := Lib.hid (And.intro hs ha); simp only [Ar.v]; have H2_2 : Hid (Sp Non w w2 [Pt.row ⟨40, 7, some ⟨g, 0, none⟩, 1, 1, [.int .i64 kk, .int .i64 op, .int .i64 nn, .slice sa sn sc, .slice aa an ac, .slice ta tn tc, .slice ba bn bc]⟩, Pt.arr ⟨sa1, sn1, sc1, aa1, an1, ac1, s1, a1⟩, Pt.arr ⟨sa2, sn2, sc2, aa2, an2, ac2, s2, a2⟩, Pt.row ⟨38, 2, some ⟨_, 0, none⟩, 1, 1, [.slice none 0 0, .slice none 0 0]⟩, Pt.row ⟨38, 2, some ⟨_, 0, none⟩, 1, 1, [.slice none 0 0, .slice none 0 0]⟩]) := (H1_2.out.arrNew hI hO hq).pick [0, 1, 4, 2, 3] (by decide); clear hreq x00 x01 x02 x03 xn0 xm0 xl0 xg0 xh0 x10 x11 x12 x13 xn1 xm1 xl1 xg1 xh1 xb0 xb1 hI hs ha hO hq yn ym; clear p3 p4 p5 p6; have p3 := H2_2.out.cell (i := 0) rfl 3 _ rfl; have p4 := H2_2.out.cell (i := 0) rfl 4 _ rfl; have p5 := H2_2.out.cell (i := 0) rfl 5 _ rfl; have p6 := H2_2.out.cell (i := 0) rfl 6 _ rfl; have yl := (H2_2.out.rlt (i := 0) rfl).1; have yn : ¬ g = w2.heap.size := Nat.ne_of_lt yl; have ym : ¬ w2.heap.size = g := (Nat.ne_of_lt yl).symm; clear yl; have x00 := H2_2.out.cell (i := 3) rfl 0 _ rfl; have x01 := H2_2.out.cell (i := 3) rfl 1 _ rfl; have x02 := H2_2.out.frozen (i := 3) rfl 0; have x03 := H2_2.out.frozen (i := 3) rfl 1; have xl0 := (H2_2.out.rlt (i := 3) rfl).1; have xn0 : ¬ _ = w2.heap.size := Nat.ne_of_lt xl0; have xm0 : ¬ w2.heap.size = _ := (Nat.ne_of_lt xl0).symm; have xg0 := H2_2.out.rne (i := 0) (j := 3) (by decide) rfl rfl; have xh0 := H2_2.out.rne (i := 3) (j := 0) (by decide) rfl rfl; have x10 := H2_2.out.cell (i := 4) rfl 0 _ rfl; have x11 := H2_2.out.cell (i := 4) rfl 1 _ rfl; have x12 := H2_2.out.frozen (i := 4) rfl 0; have x13 := H2_2.out.frozen (i := 4) rfl 1; have xl1 := (H2_2.out.rlt (i := 4) rfl).1; have xn1 : ¬ _ = w2.heap.size := Nat.ne_of_lt xl1; have xm1 : ¬ w2.heap.size = _ := (Nat.ne_of_lt xl1).symm; have xg1 := H2_2.out.rne (i := 0) (j := 4) (by decide) rfl rfl; have xh1 := H2_2.out.rne (i := 4) (j := 0) (by decide) rfl rfl; have xb0 := H2_2.out.rne (i := 3) (j := 4) (by decide) rfl rfl; have xb1 := H2_2.out.rne (i := 4) (j := 3) (by decide) rfl rfl; clear H1_2)
      )
    all_goals
      go_wp2_with fail
      go_meet
      first
      | exact ⟨_, _, ⟨sa1, sn1, sc1, aa1, an1, ac1, s1, a1⟩, ⟨sa2, sn2, sc2, aa2, an2, ac2, s2, a2⟩, rfl, rfl, (by have hh := (((H2_0.out).alloc 38 2 1 #[.slice sa1 sn1 sc1, .slice aa1 an1 ac1] rfl (by decide)).alloc 38 2 1 #[.slice sa2 sn2 sc2, .slice aa2 an2 ac2] rfl (by decide)).pick [0, 1, 2, 3, 4] (by decide); (try simp only [World.size_alloc, World.size_setCell, World.size_drew] at hh); exact hh), ⟨HV1.out.1, HV1.out.2, HV2.out.1, HV2.out.2⟩⟩
      | exact ⟨_, _, ⟨sa1, sn1, sc1, aa1, an1, ac1, s1, a1⟩, ⟨sa2, sn2, sc2, aa2, an2, ac2, s2, a2⟩, rfl, rfl, (by have hh := (((H2_0.out).alloc 38 2 1 #[.slice sa2 sn2 sc2, .slice aa2 an2 ac2] rfl (by decide)).alloc 38 2 1 #[.slice sa1 sn1 sc1, .slice aa1 an1 ac1] rfl (by decide)).pick [0, 1, 2, 4, 3] (by decide); (try simp only [World.size_alloc, World.size_setCell, World.size_drew] at hh); exact hh), ⟨HV1.out.1, HV1.out.2, HV2.out.1, HV2.out.2⟩⟩
      | exact ⟨_, _, ⟨sa1, sn1, sc1, aa1, an1, ac1, s1, a1⟩, ⟨sa2, sn2, sc2, aa2, an2, ac2, s2, a2⟩, rfl, rfl, (by have hh := ((((H2_1.out).put (i := 3) rfl 0 (.slice sa1 sn1 sc1)).put (i := 3) rfl 1 (.slice aa1 an1 ac1)).alloc 38 2 1 #[.slice sa2 sn2 sc2, .slice aa2 an2 ac2] rfl (by decide)).pick [0, 1, 2, 3, 4] (by decide); (try simp only [World.size_alloc, World.size_setCell, World.size_drew] at hh); exact hh), ⟨HV1.out.1, HV1.out.2, HV2.out.1, HV2.out.2⟩⟩
      | exact ⟨_, _, ⟨sa1, sn1, sc1, aa1, an1, ac1, s1, a1⟩, ⟨sa2, sn2, sc2, aa2, an2, ac2, s2, a2⟩, rfl, rfl, (by have hh := ((((H2_1.out).alloc 38 2 1 #[.slice sa2 sn2 sc2, .slice aa2 an2 ac2] rfl (by decide)).put (i := 3) rfl 0 (.slice sa1 sn1 sc1)).put (i := 3) rfl 1 (.slice aa1 an1 ac1)).pick [0, 1, 2, 3, 4] (by decide); (try simp only [World.size_alloc, World.size_setCell, World.size_drew] at hh); exact hh), ⟨HV1.out.1, HV1.out.2, HV2.out.1, HV2.out.2⟩⟩
      | exact ⟨_, _, ⟨sa1, sn1, sc1, aa1, an1, ac1, s1, a1⟩, ⟨sa2, sn2, sc2, aa2, an2, ac2, s2, a2⟩, rfl, rfl, (by have hh := ((((H2_1.out).put (i := 3) rfl 0 (.slice sa2 sn2 sc2)).put (i := 3) rfl 1 (.slice aa2 an2 ac2)).alloc 38 2 1 #[.slice sa1 sn1 sc1, .slice aa1 an1 ac1] rfl (by decide)).pick [0, 1, 2, 4, 3] (by decide); (try simp only [World.size_alloc, World.size_setCell, World.size_drew] at hh); exact hh), ⟨HV1.out.1, HV1.out.2, HV2.out.1, HV2.out.2⟩⟩
      | exact ⟨_, _, ⟨sa1, sn1, sc1, aa1, an1, ac1, s1, a1⟩, ⟨sa2, sn2, sc2, aa2, an2, ac2, s2, a2⟩, rfl, rfl, (by have hh := ((((H2_1.out).alloc 38 2 1 #[.slice sa1 sn1 sc1, .slice aa1 an1 ac1] rfl (by decide)).put (i := 3) rfl 0 (.slice sa2 sn2 sc2)).put (i := 3) rfl 1 (.slice aa2 an2 ac2)).pick [0, 1, 2, 4, 3] (by decide); (try simp only [World.size_alloc, World.size_setCell, World.size_drew] at hh); exact hh), ⟨HV1.out.1, HV1.out.2, HV2.out.1, HV2.out.2⟩⟩
      | exact ⟨_, _, ⟨sa1, sn1, sc1, aa1, an1, ac1, s1, a1⟩, ⟨sa2, sn2, sc2, aa2, an2, ac2, s2, a2⟩, rfl, rfl, (by have hh := (((((H2_2.out).put (i := 3) rfl 0 (.slice sa1 sn1 sc1)).put (i := 3) rfl 1 (.slice aa1 an1 ac1)).put (i := 4) rfl 0 (.slice sa2 sn2 sc2)).put (i := 4) rfl 1 (.slice aa2 an2 ac2)).pick [0, 1, 2, 3, 4] (by decide); (try simp only [World.size_alloc, World.size_setCell, World.size_drew] at hh); exact hh), ⟨HV1.out.1, HV1.out.2, HV2.out.1, HV2.out.2⟩⟩
      | exact ⟨_, _, ⟨sa1, sn1, sc1, aa1, an1, ac1, s1, a1⟩, ⟨sa2, sn2, sc2, aa2, an2, ac2, s2, a2⟩, rfl, rfl, (by have hh := (((((H2_2.out).put (i := 4) rfl 0 (.slice sa1 sn1 sc1)).put (i := 4) rfl 1 (.slice aa1 an1 ac1)).put (i := 3) rfl 0 (.slice sa2 sn2 sc2)).put (i := 3) rfl 1 (.slice aa2 an2 ac2)).pick [0, 1, 2, 4, 3] (by decide); (try simp only [World.size_alloc, World.size_setCell, World.size_drew] at hh); exact hh), ⟨HV1.out.1, HV1.out.2, HV2.out.1, HV2.out.2⟩⟩
  case rest =>
    obtain ⟨g5, g6, ⟨sa1, sn1, sc1, aa1, an1, ac1, s1, a1⟩, ⟨sa2, sn2, sc2, aa2, an2, ac2, s2, a2⟩, rfl, rfl, HU, HV⟩ := hcut
    simp only at HU HV
    obtain ⟨U1, hU⟩ : ∃ z : World, z = wc := ⟨_, rfl⟩
    subst hU
    obtain ⟨e1, e2, e3, e4⟩ := HV.out
    have e1' := e1.symm
    have e2' := e2.symm
    have e3' := e3.symm
    have e4' := e4.symm
    subst e1' e2' e3' e4'
    clear e1 e2 e3 e4 p3 p4 p5 p6 y1 y2 y3 y4 CX CY HV H1
    obtain ⟨S, HSS⟩ : ∃ z, Hid ((givS mon dya kk op s a t b).1 = z) := ⟨_, rfl⟩
    obtain ⟨A, HAA⟩ : ∃ z, Hid ((givS mon dya kk op s a t b).2.1 = z) := ⟨_, rfl⟩
    have CG : Hid (∀ (w1 : World), Ar.Is ⟨sa1, sn1, sc1, aa1, an1, ac1, s, a⟩ w1 → Ar.Is ⟨sa2, sn2, sc2, aa2, an2, ac2, t, b⟩ w1 → Calls Try.prog 13 #[.agg #[.int .i64 kk, .int .i64 op, .int .i64 nn, .slice sa sn sc, .slice aa an ac, .slice ta tn tc, .slice ba bn bc], .agg #[.slice sa1 sn1 sc1, .slice aa1 an1 ac1], .agg #[.slice sa2 sn2 sc2, .slice aa2 an2 ac2]] w1 (fun e w' => ∃ B C : Ar, e = .returned (.tuple #[B.v, C.v]) ∧ Sp Non w1 w' [Pt.arr B, Pt.arr C] ∧ B.s = S ∧ B.a = A ∧ C.s = S ∧ C.a = A)) := fun w1 h1 h2 => by
      have q := gives8_any HPK.out (O1 := ⟨sa, sn, sc, aa, an, ac, s, a⟩) (O2 := ⟨ta, tn, tc, ba, bn, bc, t, b⟩) h1 h2 kk op nn
      simp only [Opv.cells, Ar.v] at q
      refine q.mono ?_
      rintro e w' ⟨B, C, he, h1, h2, h3, h4, h5⟩
      rw [HSS.out] at h2 h4
      rw [HAA.out] at h3 h5
      exact ⟨B, C, he, h1, h2, h3, h4, h5⟩
    have p0 := HU.out.cell (i := 0) rfl 0 _ rfl
    have p1 := HU.out.cell (i := 0) rfl 1 _ rfl
    have p2 := HU.out.cell (i := 0) rfl 2 _ rfl
    have p3 := HU.out.cell (i := 0) rfl 3 _ rfl
    have p4 := HU.out.cell (i := 0) rfl 4 _ rfl
    have p5 := HU.out.cell (i := 0) rfl 5 _ rfl
    have p6 := HU.out.cell (i := 0) rfl 6 _ rfl
    have x0 := HU.out.cell (i := 3) rfl 0 _ rfl
    have x1 := HU.out.cell (i := 3) rfl 1 _ rfl
    have y0 := HU.out.cell (i := 4) rfl 0 _ rfl
    have y1 := HU.out.cell (i := 4) rfl 1 _ rfl
    go_wp2_with fail
    refine (CG.out _ (HU.out.isA (i := 1) rfl) (HU.out.isA (i := 2) rfl)).mono ?_; rintro e w3 ⟨⟨sa3, sn3, sc3, aa3, an3, ac3, s3, a3⟩, ⟨sa4, sn4, sc4, aa4, an4, ac4, s4, a4⟩, rfl, hq, hs3, ha3, hs4, ha4⟩
    simp only at hs3 ha3 hs4 ha4
    have V3 := Lib.hid (And.intro hs3 (And.intro ha3 (And.intro hs4 ha4)))
    simp only [Ar.v]
    obtain ⟨W2, HW2⟩ : ∃ z, Hid ((w3.alloc (.cells #[.slice sa3 sn3 sc3, .slice aa3 an3 ac3] 38)).alloc (.cells #[.slice sa4 sn4 sc4, .slice aa4 an4 ac4] 38) = z) := ⟨_, rfl⟩
    obtain ⟨g7, HG7⟩ : ∃ z, Hid (w3.heap.size = z) := ⟨_, rfl⟩
    have h2 := ((HU.out.add hq).alloc 38 2 1 #[.slice sa3 sn3 sc3, .slice aa3 an3 ac3] rfl (by decide)).alloc 38 2 1 #[.slice sa4 sn4 sc4, .slice aa4 an4 ac4] rfl (by decide)
    simp only [World.size_alloc] at h2
    rw [HW2.out, HG7.out] at h2
    have H2_ := h2
    try simp only [List.cons_append, List.nil_append, List.set_cons_zero, List.set_cons_succ, List.map_cons, List.map_nil, List.getD_cons_zero, List.getD_cons_succ, World.size_alloc] at H2_
    have H2 := Lib.hid H2_
    clear H2_
    clear hs3 ha3 hs4 ha4 hq h2 p0 p1 p2 p3 p4 p5 p6 x0 x1 y0 y1 HU
    go_upto_region 3 with fail
    rw [HW2.out, HG7.out]
    have p0 := H2.out.cell (i := 0) rfl 0 _ rfl
    have p1 := H2.out.cell (i := 0) rfl 1 _ rfl
    have p2 := H2.out.cell (i := 0) rfl 2 _ rfl
    have p3 := H2.out.cell (i := 0) rfl 3 _ rfl
    have p4 := H2.out.cell (i := 0) rfl 4 _ rfl
    have p5 := H2.out.cell (i := 0) rfl 5 _ rfl
    have p6 := H2.out.cell (i := 0) rfl 6 _ rfl
    have x0 := H2.out.cell (i := 3) rfl 0 _ rfl
    have x1 := H2.out.cell (i := 3) rfl 1 _ rfl
    have y0 := H2.out.cell (i := 4) rfl 0 _ rfl
    have y1 := H2.out.cell (i := 4) rfl 1 _ rfl
    go_wp2_with fail
    refine (CG.out _ (H2.out.isA (i := 1) rfl) (H2.out.isA (i := 2) rfl)).mono ?_; rintro e w5 ⟨⟨sa5, sn5, sc5, aa5, an5, ac5, s5, a5⟩, ⟨sa6, sn6, sc6, aa6, an6, ac6, s6, a6⟩, rfl, hq, hs3, ha3, hs4, ha4⟩
    simp only at hs3 ha3 hs4 ha4
    have V5 := Lib.hid (And.intro hs3 (And.intro ha3 (And.intro hs4 ha4)))
    simp only [Ar.v]
    obtain ⟨W3, HW3⟩ : ∃ z, Hid ((w5.alloc (.cells #[.slice sa5 sn5 sc5, .slice aa5 an5 ac5] 38)).alloc (.cells #[.slice sa6 sn6 sc6, .slice aa6 an6 ac6] 38) = z) := ⟨_, rfl⟩
    obtain ⟨g9, HG9⟩ : ∃ z, Hid (w5.heap.size = z) := ⟨_, rfl⟩
    have h2 := ((H2.out.add hq).alloc 38 2 1 #[.slice sa5 sn5 sc5, .slice aa5 an5 ac5] rfl (by decide)).alloc 38 2 1 #[.slice sa6 sn6 sc6, .slice aa6 an6 ac6] rfl (by decide)
    simp only [World.size_alloc] at h2
    rw [HW3.out, HG9.out] at h2
    have H3_ := h2
    try simp only [List.cons_append, List.nil_append, List.set_cons_zero, List.set_cons_succ, List.map_cons, List.map_nil, List.getD_cons_zero, List.getD_cons_succ, World.size_alloc] at H3_
    have H3 := Lib.hid H3_
    clear H3_
    clear hs3 ha3 hs4 ha4 hq h2 p0 p1 p2 p3 p4 p5 p6 x0 x1 y0 y1 H2
    go_upto_region 4 with fail
    rw [HW3.out, HG9.out]
    have a0 := H3.out.cell (i := 7) rfl 0 _ rfl
    have a1' := H3.out.cell (i := 7) rfl 1 _ rfl
    have b0 := H3.out.cell (i := 8) rfl 0 _ rfl
    have b1 := H3.out.cell (i := 8) rfl 1 _ rfl
    have CE := Lib.hid (eq4_any (H3.out.isA (i := 5) rfl) (H3.out.isA (i := 6) rfl))
    simp only [Ar.v] at CE
    rw [decide_eq_true ⟨V3.out.1.trans V3.out.2.2.1.symm, V3.out.2.1.trans V3.out.2.2.2.symm⟩] at CE
    go_wp2_with fail
    refine CE.out.mono ?_; rintro e w7 ⟨rfl, hb7⟩
    have H4 := Lib.hid (H3.out.via hb7)
    clear hb7 H3 CE a0 a1' b0 b1
    have a0 := H4.out.cell (i := 11) rfl 0 _ rfl
    have a1' := H4.out.cell (i := 11) rfl 1 _ rfl
    have b0 := H4.out.cell (i := 8) rfl 0 _ rfl
    have b1 := H4.out.cell (i := 8) rfl 1 _ rfl
    have CE := Lib.hid (eq4_any (H4.out.isA (i := 9) rfl) (H4.out.isA (i := 6) rfl))
    simp only [Ar.v] at CE
    rw [decide_eq_true ⟨V5.out.1.trans V3.out.2.2.1.symm, V5.out.2.1.trans V3.out.2.2.2.symm⟩] at CE
    go_wp2_with fail
    refine CE.out.mono ?_; rintro e w8 ⟨rfl, hb8⟩
    have h5 := ((((H4.out.via hb8).pick [0, 3, 4, 1, 2, 5, 6, 7, 8, 9, 11] (by decide)).split (i := 3) rfl).split (i := 4) rfl)
    have h6 := (h5.toRow (i := 12) rfl).toRow (i := 14) rfl
    have H6_ := h6.pick [0, 1, 2, 11, 12, 13, 14, 5, 6, 7, 8, 9, 10] (by decide)
    try simp only [List.cons_append, List.nil_append, List.set_cons_zero, List.set_cons_succ, List.map_cons, List.map_nil, List.getD_cons_zero, List.getD_cons_succ, World.size_alloc] at H6_
    have H6 := Lib.hid H6_
    clear H6_
    clear hb8 H4 CE a0 a1' b0 b1 h5 h6
    have RX : Hid (an1 ≤ ac1 ∧ ac1 ≤ maxLen ∧ a.length = an1 ∧ (0 < ac1 → ∃ g, aa1 = some ⟨g, 0, none⟩)) := by
      have q := H6.out.rcap (i := 4) rfl
      exact ⟨q.1, q.2.1, by have := q.2.2.1; simpa using this, q.2.2.2.2⟩
    have RY : Hid (an2 ≤ ac2 ∧ ac2 ≤ maxLen ∧ b.length = an2 ∧ (0 < ac2 → ∃ g, aa2 = some ⟨g, 0, none⟩)) := by
      have q := H6.out.rcap (i := 6) rfl
      exact ⟨q.1, q.2.1, by have := q.2.2.1; simpa using this, q.2.2.2.2⟩
    go_wp2_with fail
    go_loopw [11] (fun v wx => ∃ i : Nat, i ≤ an1 ∧ v = .int .i64 i ∧ Hid (Sp Non w wx [Pt.row ⟨40, 7, some ⟨g, 0, none⟩, 1, 1, [.int .i64 kk, .int .i64 op, .int .i64 nn, .slice sa sn sc, .slice aa an ac, .slice ta tn tc, .slice ba bn bc]⟩, Pt.row ⟨38, 2, some ⟨g5, 0, none⟩, 1, 1, [.slice sa1 sn1 sc1, .slice aa1 an1 ac1]⟩, Pt.row ⟨38, 2, some ⟨g6, 0, none⟩, 1, 1, [.slice sa2 sn2 sc2, .slice aa2 an2 ac2]⟩, Pt.ints 3 sa1 sn1 sc1 s, Pt.row ⟨2, 1, aa1, an1, ac1, (xorL i a).map (Value.int .i64)⟩, Pt.ints 3 sa2 sn2 sc2 t, Pt.row ⟨2, 1, aa2, an2, ac2, (b).map (Value.int .i64)⟩, Pt.arr ⟨sa3, sn3, sc3, aa3, an3, ac3, s3, a3⟩, Pt.arr ⟨sa4, sn4, sc4, aa4, an4, ac4, s4, a4⟩, Pt.row ⟨38, 2, some ⟨g7, 0, none⟩, 1, 1, [.slice sa3 sn3 sc3, .slice aa3 an3 ac3]⟩, Pt.row ⟨38, 2, some ⟨g7 + 1, 0, none⟩, 1, 1, [.slice sa4 sn4 sc4, .slice aa4 an4 ac4]⟩, Pt.arr ⟨sa5, sn5, sc5, aa5, an5, ac5, s5, a5⟩, Pt.row ⟨38, 2, some ⟨g9, 0, none⟩, 1, 1, [.slice sa5 sn5 sc5, .slice aa5 an5 ac5]⟩])) (fun v _ => an1 - (RowKit.intOf v).toNat)
    case atStart => exact ⟨0, Nat.zero_le _, rfl, H6⟩
    case round =>
      clear H6
      obtain ⟨i, hi, rfl, HI⟩ := hrel
      have x0 := HI.out.cell (i := 1) rfl 0 _ rfl
      have x1 := HI.out.cell (i := 1) rfl 1 _ rfl
      obtain ⟨r1, r2, r3, r4⟩ := RX.out
      unfold maxLen at r2
      by_cases hlt : i < an1
      · have hlt' : (i : Int) < an1 := by omega
        obtain ⟨gx, hgx⟩ := r4 (by omega)
        subst hgx
        have hil : i < a.length := by omega
        have q1 : wr.cell? ⟨gx, i, none⟩ = some (.int .i64 (a.getD i 0)) := HI.out.cell (i := 4) rfl i _ (by rw [List.getElem?_map, xorL_get hil]; rfl)
        have q2 := HI.out.frozen (i := 4) rfl i
        have h7 := (HI.out.put (i := 4) rfl i (.int .i64 (xo (a.getD i 0)))).via (adrew1 _)
        rw [← List.map_set, xorL_set hil] at h7
        obtain ⟨xv, HXV⟩ : ∃ z, Hid (a.getD i 0 = z) := ⟨_, rfl⟩
        rw [HXV.out] at q1 h7
        have hxo : bits BinOp.xor IntKind.i64 xv 1 = xo xv := rfl
        obtain ⟨yv, HYV⟩ : ∃ z, Hid (xo xv = z) := ⟨_, rfl⟩
        rw [HYV.out] at h7 hxo
        have H7_ := h7
        try simp only [List.cons_append, List.nil_append, List.set_cons_zero, List.set_cons_succ, List.map_cons, List.map_nil, List.getD_cons_zero, List.getD_cons_succ, World.size_alloc] at H7_
        have H7 := Lib.hid H7_
        clear H7_
        clear r4 h7 hil
        have z0 := (HI.out.via (adrew1 wr)).cell (i := 1) rfl 0 _ rfl
        have z1 := (HI.out.via (adrew1 wr)).cell (i := 1) rfl 1 _ rfl
        have z2 := q1
        have z3 := q2
        rw [← World.cell?_drew] at z2
        go_upto_region 9 with fail
        refine region_tail 10 (by kernel_rfl) (by kernel_rfl) ?_
        simp only [List.take_succ_cons, List.take_zero, List.drop_succ_cons, List.drop_zero]
        iterate 10 still_step
        refine wpStill_nil ?_
        go_wp2
        go_roundw
        case rel => exact ⟨i + 1, by omega, by go_num, H7⟩
        case measure => simp [RowKit.intOf]; omega
      · have hge : (an1 : Int) ≤ i := by omega
        have hin : i = an1 := by omega
        have H8 := Lib.hid HI.out
        rw [hin, xorL_end r3] at H8
        clear r1 r2 r3 r4 HI hin
        go_wp2_with fail
        go_loopw [12] (fun v wx => ∃ i : Nat, i ≤ an2 ∧ v = .int .i64 i ∧ Hid (Sp Non w wx [Pt.row ⟨40, 7, some ⟨g, 0, none⟩, 1, 1, [.int .i64 kk, .int .i64 op, .int .i64 nn, .slice sa sn sc, .slice aa an ac, .slice ta tn tc, .slice ba bn bc]⟩, Pt.row ⟨38, 2, some ⟨g5, 0, none⟩, 1, 1, [.slice sa1 sn1 sc1, .slice aa1 an1 ac1]⟩, Pt.row ⟨38, 2, some ⟨g6, 0, none⟩, 1, 1, [.slice sa2 sn2 sc2, .slice aa2 an2 ac2]⟩, Pt.ints 3 sa1 sn1 sc1 s, Pt.row ⟨2, 1, aa1, an1, ac1, (a.map xo).map (Value.int .i64)⟩, Pt.ints 3 sa2 sn2 sc2 t, Pt.row ⟨2, 1, aa2, an2, ac2, (xorL i b).map (Value.int .i64)⟩, Pt.arr ⟨sa3, sn3, sc3, aa3, an3, ac3, s3, a3⟩, Pt.arr ⟨sa4, sn4, sc4, aa4, an4, ac4, s4, a4⟩, Pt.row ⟨38, 2, some ⟨g7, 0, none⟩, 1, 1, [.slice sa3 sn3 sc3, .slice aa3 an3 ac3]⟩, Pt.row ⟨38, 2, some ⟨g7 + 1, 0, none⟩, 1, 1, [.slice sa4 sn4 sc4, .slice aa4 an4 ac4]⟩, Pt.arr ⟨sa5, sn5, sc5, aa5, an5, ac5, s5, a5⟩, Pt.row ⟨38, 2, some ⟨g9, 0, none⟩, 1, 1, [.slice sa5 sn5 sc5, .slice aa5 an5 ac5]⟩])) (fun v _ => an2 - (RowKit.intOf v).toNat)
        case atStart => exact ⟨0, Nat.zero_le _, rfl, H8⟩
        case round =>
          clear H8
          obtain ⟨i, hi, rfl, HI⟩ := hrel
          have x0 := HI.out.cell (i := 2) rfl 0 _ rfl
          have x1 := HI.out.cell (i := 2) rfl 1 _ rfl
          obtain ⟨r1, r2, r3, r4⟩ := RY.out
          unfold maxLen at r2
          by_cases hlt : i < an2
          · have hlt' : (i : Int) < an2 := by omega
            obtain ⟨gx, hgx⟩ := r4 (by omega)
            subst hgx
            have hil : i < b.length := by omega
            have q1 : wr.cell? ⟨gx, i, none⟩ = some (.int .i64 (b.getD i 0)) := HI.out.cell (i := 6) rfl i _ (by rw [List.getElem?_map, xorL_get hil]; rfl)
            have q2 := HI.out.frozen (i := 6) rfl i
            have h7 := (HI.out.put (i := 6) rfl i (.int .i64 (xo (b.getD i 0)))).via (adrew1 _)
            rw [← List.map_set, xorL_set hil] at h7
            obtain ⟨xv, HXV⟩ : ∃ z, Hid (b.getD i 0 = z) := ⟨_, rfl⟩
            rw [HXV.out] at q1 h7
            have hxo : bits BinOp.xor IntKind.i64 xv 1 = xo xv := rfl
            obtain ⟨yv, HYV⟩ : ∃ z, Hid (xo xv = z) := ⟨_, rfl⟩
            rw [HYV.out] at h7 hxo
            have H7_ := h7
            try simp only [List.cons_append, List.nil_append, List.set_cons_zero, List.set_cons_succ, List.map_cons, List.map_nil, List.getD_cons_zero, List.getD_cons_succ, World.size_alloc] at H7_
            have H7 := Lib.hid H7_
            clear H7_
            clear r4 h7 hil
            have z0 := (HI.out.via (adrew1 wr)).cell (i := 2) rfl 0 _ rfl
            have z1 := (HI.out.via (adrew1 wr)).cell (i := 2) rfl 1 _ rfl
            have z2 := q1
            have z3 := q2
            rw [← World.cell?_drew] at z2
            go_upto_region 13 with fail
            refine region_tail 10 (by kernel_rfl) (by kernel_rfl) ?_
            simp only [List.take_succ_cons, List.take_zero, List.drop_succ_cons, List.drop_zero]
            iterate 10 still_step
            refine wpStill_nil ?_
            go_wp2
            go_roundw
            case rel => exact ⟨i + 1, by omega, by go_num, H7⟩
            case measure => simp [RowKit.intOf]; omega
          · have hge : (an2 : Int) ≤ i := by omega
            have hin : i = an2 := by omega
            have H8 := Lib.hid HI.out
            rw [hin, xorL_end r3] at H8
            clear r1 r2 r3 r4 HI hin
            have hlx := RX.out.2.2.1
            have hly := RY.out.2.2.1
            have hln := HLN.out
            have h9 := (((H8.out.toInts (zs := a.map xo) (i := 4) rfl (by omega) (map_rng a)).toInts (zs := b.map xo) (i := 6) rfl (by omega) (map_rng b)).arrOf (i := 3) (j := 4) rfl (by decide) rfl).arrOf (i := 5) (j := 6) rfl (by decide) rfl
            have H10_ := h9.pick [0, 4, 6, 1, 2, 7, 8, 9, 10, 11, 12] (by decide)
            try simp only [List.cons_append, List.nil_append, List.set_cons_zero, List.set_cons_succ, List.map_cons, List.map_nil, List.getD_cons_zero, List.getD_cons_succ, World.size_alloc] at H10_
            have H10 := Lib.hid H10_
            clear H10_
            clear h9 H8 hlx hly hln x0 x1 CG
            obtain ⟨S2, HS2⟩ : ∃ z, Hid ((givS mon dya kk op s (a.map xo) t (b.map xo)).1 = z) := ⟨_, rfl⟩
            obtain ⟨A2, HA2⟩ : ∃ z, Hid ((givS mon dya kk op s (a.map xo) t (b.map xo)).2.1 = z) := ⟨_, rfl⟩
            have CG2 : Hid (∀ (w1 : World), Ar.Is ⟨sa1, sn1, sc1, aa1, an1, ac1, s, a.map xo⟩ w1 → Ar.Is ⟨sa2, sn2, sc2, aa2, an2, ac2, t, b.map xo⟩ w1 → Calls Try.prog 13 #[.agg #[.int .i64 kk, .int .i64 op, .int .i64 nn, .slice sa sn sc, .slice aa an ac, .slice ta tn tc, .slice ba bn bc], .agg #[.slice sa1 sn1 sc1, .slice aa1 an1 ac1], .agg #[.slice sa2 sn2 sc2, .slice aa2 an2 ac2]] w1 (fun e w' => ∃ B C : Ar, e = .returned (.tuple #[B.v, C.v]) ∧ Sp Non w1 w' [Pt.arr B, Pt.arr C] ∧ B.s = S2 ∧ B.a = A2 ∧ C.s = S2 ∧ C.a = A2)) := fun w1 h1 h2 => by
              have q := gives8_any HPK.out (O1 := ⟨sa, sn, sc, aa, an, ac, s, a⟩) (O2 := ⟨ta, tn, tc, ba, bn, bc, t, b⟩) h1 h2 kk op nn
              simp only [Opv.cells, Ar.v] at q
              refine q.mono ?_
              rintro e w' ⟨B, C, he, h1, h2, h3, h4, h5⟩
              rw [HS2.out] at h2 h4
              rw [HA2.out] at h3 h5
              exact ⟨B, C, he, h1, h2, h3, h4, h5⟩
            obtain ⟨U9, HU9⟩ : ∃ z, Hid (wr = z) := ⟨_, rfl⟩
            rw [HU9.out] at H10 ⊢
            have p0 := H10.out.cell (i := 0) rfl 0 _ rfl
            have p1 := H10.out.cell (i := 0) rfl 1 _ rfl
            have p2 := H10.out.cell (i := 0) rfl 2 _ rfl
            have p3 := H10.out.cell (i := 0) rfl 3 _ rfl
            have p4 := H10.out.cell (i := 0) rfl 4 _ rfl
            have p5 := H10.out.cell (i := 0) rfl 5 _ rfl
            have p6 := H10.out.cell (i := 0) rfl 6 _ rfl
            have x0 := H10.out.cell (i := 3) rfl 0 _ rfl
            have x1 := H10.out.cell (i := 3) rfl 1 _ rfl
            have y0 := H10.out.cell (i := 4) rfl 0 _ rfl
            have y1 := H10.out.cell (i := 4) rfl 1 _ rfl
            go_wp2_with fail
            refine (CG2.out _ (H10.out.isA (i := 1) rfl) (H10.out.isA (i := 2) rfl)).mono ?_; rintro e w9 ⟨⟨sa9, sn9, sc9, aa9, an9, ac9, s9, a9⟩, ⟨sa10, sn10, sc10, aa10, an10, ac10, s10, a10⟩, rfl, hq, hs3, ha3, hs4, ha4⟩
            simp only at hs3 ha3 hs4 ha4
            have V9 := Lib.hid (And.intro hs3 (And.intro ha3 (And.intro hs4 ha4)))
            simp only [Ar.v]
            obtain ⟨W14, HW14⟩ : ∃ z, Hid ((w9.alloc (.cells #[.slice sa9 sn9 sc9, .slice aa9 an9 ac9] 38)).alloc (.cells #[.slice sa10 sn10 sc10, .slice aa10 an10 ac10] 38) = z) := ⟨_, rfl⟩
            obtain ⟨g13, HG13⟩ : ∃ z, Hid (w9.heap.size = z) := ⟨_, rfl⟩
            have h2 := ((H10.out.add hq).alloc 38 2 1 #[.slice sa9 sn9 sc9, .slice aa9 an9 ac9] rfl (by decide)).alloc 38 2 1 #[.slice sa10 sn10 sc10, .slice aa10 an10 ac10] rfl (by decide)
            simp only [World.size_alloc] at h2
            rw [HW14.out, HG13.out] at h2
            have H14_ := h2
            try simp only [List.cons_append, List.nil_append, List.set_cons_zero, List.set_cons_succ, List.map_cons, List.map_nil, List.getD_cons_zero, List.getD_cons_succ, World.size_alloc] at H14_
            have H14 := Lib.hid H14_
            clear H14_
            clear hs3 ha3 hs4 ha4 hq h2 p0 p1 p2 p3 p4 p5 p6 x0 x1 y0 y1 H10
            go_upto_region 15 with fail
            rw [HW14.out, HG13.out]
            obtain ⟨w15, HW15⟩ : ∃ z, Hid (W14.heap.size = z) := ⟨_, rfl⟩
            obtain ⟨W15, HX15⟩ : ∃ z, Hid ((W14.alloc (.cells #[.slice sa3 sn3 sc3, .slice aa3 an3 ac3, .slice sa5 sn5 sc5, .slice aa5 an5 ac5, .slice sa9 sn9 sc9, .slice aa9 an9 ac9] 38)).alloc (.cells #[.slice sa4 sn4 sc4, .slice aa4 an4 ac4, .slice sa4 sn4 sc4, .slice aa4 an4 ac4, .slice sa10 sn10 sc10, .slice aa10 an10 ac10] 38) = z) := ⟨_, rfl⟩
            have h15 := (H14.out.alloc 38 2 3 #[.slice sa3 sn3 sc3, .slice aa3 an3 ac3, .slice sa5 sn5 sc5, .slice aa5 an5 ac5, .slice sa9 sn9 sc9, .slice aa9 an9 ac9] rfl (by decide)).alloc 38 2 3 #[.slice sa4 sn4 sc4, .slice aa4 an4 ac4, .slice sa4 sn4 sc4, .slice aa4 an4 ac4, .slice sa10 sn10 sc10, .slice aa10 an10 ac10] rfl (by decide)
            simp only [World.size_alloc] at h15
            rw [HX15.out, HW15.out] at h15
            have OK3 : Hid (ArOk4 ⟨sa3, sn3, sc3, aa3, an3, ac3, s3, a3⟩ ∧ ArOk4 ⟨sa4, sn4, sc4, aa4, an4, ac4, s4, a4⟩ ∧ ArOk4 ⟨sa5, sn5, sc5, aa5, an5, ac5, s5, a5⟩ ∧ ArOk4 ⟨sa9, sn9, sc9, aa9, an9, ac9, s9, a9⟩ ∧ ArOk4 ⟨sa10, sn10, sc10, aa10, an10, ac10, s10, a10⟩) := by
              have fl := HFT.out.giv kk op HLN.out.1 HLN.out.2.1 HLN.out.2.2.1 HLN.out.2.2.2
              have fl2 := HFT.out.giv kk op (s := s) (a := a.map xo) (t := t) (b := b.map xo) HLN.out.1 (by rw [List.length_map]; exact HLN.out.2.1) HLN.out.2.2.1 (by rw [List.length_map]; exact HLN.out.2.2.2)
              rw [HSS.out, HAA.out] at fl
              rw [HS2.out, HA2.out] at fl2
              have key : ∀ (A : Ar) (W : World), A.Is W → A.s.length ≤ 4194304 → A.a.length ≤ 4194304 → ArOk4 A := fun A W h h1 h2 => ⟨by rw [← h.shp.len]; exact h1, by rw [← h.ats.len]; exact h2, h.shp.rng, h.ats.rng⟩
              exact ⟨key _ _ (h15.isA (i := 5) rfl) (by rw [show s3 = S from V3.out.1]; exact fl.1) (by rw [show a3 = A from V3.out.2.1]; exact fl.2), key _ _ (h15.isA (i := 6) rfl) (by rw [show s4 = S from V3.out.2.2.1]; exact fl.1) (by rw [show a4 = A from V3.out.2.2.2]; exact fl.2),
                key _ _ (h15.isA (i := 9) rfl) (by rw [show s5 = S from V5.out.1]; exact fl.1) (by rw [show a5 = A from V5.out.2.1]; exact fl.2), key _ _ (h15.isA (i := 11) rfl) (by rw [show s9 = S2 from V9.out.1]; exact fl2.1) (by rw [show a9 = A2 from V9.out.2.1]; exact fl2.2),
                key _ _ (h15.isA (i := 12) rfl) (by rw [show s10 = S2 from V9.out.2.2.1]; exact fl2.1) (by rw [show a10 = A2 from V9.out.2.2.2]; exact fl2.2)⟩
            have H15_ := h15
            try simp only [List.cons_append, List.nil_append, List.set_cons_zero, List.set_cons_succ, List.map_cons, List.map_nil, List.getD_cons_zero, List.getD_cons_succ, World.size_alloc] at H15_
            have H15 := Lib.hid H15_
            clear H15_
            have H16a_ := (H15.out.split (i := 5) rfl).split (i := 6) rfl
            try simp only [List.cons_append, List.nil_append, List.set_cons_zero, List.set_cons_succ, List.map_cons, List.map_nil, List.getD_cons_zero, List.getD_cons_succ, World.size_alloc] at H16a_
            have H16a := Lib.hid H16a_
            clear H16a_
            have H16b_ := ((H16a.out.split (i := 9) rfl).split (i := 11) rfl).split (i := 12) rfl
            try simp only [List.cons_append, List.nil_append, List.set_cons_zero, List.set_cons_succ, List.map_cons, List.map_nil, List.getD_cons_zero, List.getD_cons_succ, World.size_alloc] at H16b_
            have H16b := Lib.hid H16b_
            clear H16b_
            have H17_ := H16b.out.pick [17, 18, 21, 22, 23, 24, 19, 20, 25, 26, 15, 16, 7, 8, 10, 13, 14] (by decide)
            try simp only [List.cons_append, List.nil_append, List.set_cons_zero, List.set_cons_succ, List.map_cons, List.map_nil, List.getD_cons_zero, List.getD_cons_succ, World.size_alloc] at H17_
            have H17 := Lib.hid H17_
            clear H17_
            clear H16a H16b
            have h18 : Sp Non w W15 (([rowS ⟨sa3, sn3, sc3, aa3, an3, ac3, s3, a3⟩, rowA ⟨sa3, sn3, sc3, aa3, an3, ac3, s3, a3⟩, rowS ⟨sa5, sn5, sc5, aa5, an5, ac5, s5, a5⟩, rowA ⟨sa5, sn5, sc5, aa5, an5, ac5, s5, a5⟩, rowS ⟨sa9, sn9, sc9, aa9, an9, ac9, s9, a9⟩, rowA ⟨sa9, sn9, sc9, aa9, an9, ac9, s9, a9⟩, rowS ⟨sa4, sn4, sc4, aa4, an4, ac4, s4, a4⟩, rowA ⟨sa4, sn4, sc4, aa4, an4, ac4, s4, a4⟩, rowS ⟨sa10, sn10, sc10, aa10, an10, ac10, s10, a10⟩, rowA ⟨sa10, sn10, sc10, aa10, an10, ac10, s10, a10⟩, ⟨38, 2, some ⟨w15, 0, none⟩, 3, 3, [.slice sa3 sn3 sc3, .slice aa3 an3 ac3, .slice sa5 sn5 sc5, .slice aa5 an5 ac5, .slice sa9 sn9 sc9, .slice aa9 an9 ac9]⟩, ⟨38, 2, some ⟨w15 + 1, 0, none⟩, 3, 3, [.slice sa4 sn4 sc4, .slice aa4 an4 ac4, .slice sa4 sn4 sc4, .slice aa4 an4 ac4, .slice sa10 sn10 sc10, .slice aa10 an10 ac10]⟩, ⟨38, 2, some ⟨g7, 0, none⟩, 1, 1, [.slice sa3 sn3 sc3, .slice aa3 an3 ac3]⟩, ⟨38, 2, some ⟨g7 + 1, 0, none⟩, 1, 1, [.slice sa4 sn4 sc4, .slice aa4 an4 ac4]⟩, ⟨38, 2, some ⟨g9, 0, none⟩, 1, 1, [.slice sa5 sn5 sc5, .slice aa5 an5 ac5]⟩, ⟨38, 2, some ⟨g13, 0, none⟩, 1, 1, [.slice sa9 sn9 sc9, .slice aa9 an9 ac9]⟩, ⟨38, 2, some ⟨g13 + 1, 0, none⟩, 1, 1, [.slice sa10 sn10 sc10, .slice aa10 an10 ac10]⟩] : List Rw).map Pt.row) := by
              refine H17.out.mapW _ rfl fun i A B hA hB F hF => ?_
              match i with
              | 0 => cases hA; cases hB; exact hF.2
              | 1 => cases hA; cases hB; exact hF.2
              | 2 => cases hA; cases hB; exact hF.2
              | 3 => cases hA; cases hB; exact hF.2
              | 4 => cases hA; cases hB; exact hF.2
              | 5 => cases hA; cases hB; exact hF.2
              | 6 => cases hA; cases hB; exact hF.2
              | 7 => cases hA; cases hB; exact hF.2
              | 8 => cases hA; cases hB; exact hF.2
              | 9 => cases hA; cases hB; exact hF.2
              | 10 => cases hA; cases hB; exact hF
              | 11 => cases hA; cases hB; exact hF
              | 12 => cases hA; cases hB; exact hF
              | 13 => cases hA; cases hB; exact hF
              | 14 => cases hA; cases hB; exact hF
              | 15 => cases hA; cases hB; exact hF
              | 16 => cases hA; cases hB; exact hF
              | i + 17 => simp at hA
            obtain ⟨R5, HR5⟩ : ∃ z, Hid (putR R [(42, 1, 0), (42, 2, 0), (42, 1, 1), (42, 2, 1), (42, 1, 2), (42, 2, 2), (22, 1, J), (22, 2, J), (22, 1, J + 1), (22, 2, J + 1), (44, 1, 0), (44, 2, 0), (40, 3, 0), (40, 4, 0), (40, 5, 0), (40, 7, 0), (40, 8, 0)] [rowS ⟨sa3, sn3, sc3, aa3, an3, ac3, s3, a3⟩, rowA ⟨sa3, sn3, sc3, aa3, an3, ac3, s3, a3⟩, rowS ⟨sa5, sn5, sc5, aa5, an5, ac5, s5, a5⟩, rowA ⟨sa5, sn5, sc5, aa5, an5, ac5, s5, a5⟩, rowS ⟨sa9, sn9, sc9, aa9, an9, ac9, s9, a9⟩, rowA ⟨sa9, sn9, sc9, aa9, an9, ac9, s9, a9⟩, rowS ⟨sa4, sn4, sc4, aa4, an4, ac4, s4, a4⟩, rowA ⟨sa4, sn4, sc4, aa4, an4, ac4, s4, a4⟩, rowS ⟨sa10, sn10, sc10, aa10, an10, ac10, s10, a10⟩, rowA ⟨sa10, sn10, sc10, aa10, an10, ac10, s10, a10⟩, ⟨38, 2, some ⟨w15, 0, none⟩, 3, 3, [.slice sa3 sn3 sc3, .slice aa3 an3 ac3, .slice sa5 sn5 sc5, .slice aa5 an5 ac5, .slice sa9 sn9 sc9, .slice aa9 an9 ac9]⟩, ⟨38, 2, some ⟨w15 + 1, 0, none⟩, 3, 3, [.slice sa4 sn4 sc4, .slice aa4 an4 ac4, .slice sa4 sn4 sc4, .slice aa4 an4 ac4, .slice sa10 sn10 sc10, .slice aa10 an10 ac10]⟩, ⟨38, 2, some ⟨g7, 0, none⟩, 1, 1, [.slice sa3 sn3 sc3, .slice aa3 an3 ac3]⟩, ⟨38, 2, some ⟨g7 + 1, 0, none⟩, 1, 1, [.slice sa4 sn4 sc4, .slice aa4 an4 ac4]⟩, ⟨38, 2, some ⟨g9, 0, none⟩, 1, 1, [.slice sa5 sn5 sc5, .slice aa5 an5 ac5]⟩, ⟨38, 2, some ⟨g13, 0, none⟩, 1, 1, [.slice sa9 sn9 sc9, .slice aa9 an9 ac9]⟩, ⟨38, 2, some ⟨g13 + 1, 0, none⟩, 1, 1, [.slice sa10 sn10 sc10, .slice aa10 an10 ac10]⟩] = z) := ⟨_, rfl⟩
            have hnd : ([(42, 1, 0), (42, 2, 0), (42, 1, 1), (42, 2, 1), (42, 1, 2), (42, 2, 2), (22, 1, J), (22, 2, J), (22, 1, J + 1), (22, 2, J + 1), (44, 1, 0), (44, 2, 0), (40, 3, 0), (40, 4, 0), (40, 5, 0), (40, 7, 0), (40, 8, 0)] : List (Nat × Nat × Nat)).Nodup := by simp
            have h19 := HH.out.ofSp h18 [(42, 1, 0), (42, 2, 0), (42, 1, 1), (42, 2, 1), (42, 1, 2), (42, 2, 2), (22, 1, J), (22, 2, J), (22, 1, J + 1), (22, 2, J + 1), (44, 1, 0), (44, 2, 0), (40, 3, 0), (40, 4, 0), (40, 5, 0), (40, 7, 0), (40, 8, 0)] hnd rfl
            rw [HR5.out] at h19
            have r0 : R5 (42, 1, 0) = rowS ⟨sa3, sn3, sc3, aa3, an3, ac3, s3, a3⟩ := by rw [← HR5.out]; exact putR_at 0 hnd rfl rfl
            have r1 : R5 (42, 2, 0) = rowA ⟨sa3, sn3, sc3, aa3, an3, ac3, s3, a3⟩ := by rw [← HR5.out]; exact putR_at 1 hnd rfl rfl
            have r2 : R5 (42, 1, 1) = rowS ⟨sa5, sn5, sc5, aa5, an5, ac5, s5, a5⟩ := by rw [← HR5.out]; exact putR_at 2 hnd rfl rfl
            have r3 : R5 (42, 2, 1) = rowA ⟨sa5, sn5, sc5, aa5, an5, ac5, s5, a5⟩ := by rw [← HR5.out]; exact putR_at 3 hnd rfl rfl
            have r4 : R5 (42, 1, 2) = rowS ⟨sa9, sn9, sc9, aa9, an9, ac9, s9, a9⟩ := by rw [← HR5.out]; exact putR_at 4 hnd rfl rfl
            have r5 : R5 (42, 2, 2) = rowA ⟨sa9, sn9, sc9, aa9, an9, ac9, s9, a9⟩ := by rw [← HR5.out]; exact putR_at 5 hnd rfl rfl
            have r6 : R5 (22, 1, J) = rowS ⟨sa4, sn4, sc4, aa4, an4, ac4, s4, a4⟩ := by rw [← HR5.out]; exact putR_at 6 hnd rfl rfl
            have r7 : R5 (22, 2, J) = rowA ⟨sa4, sn4, sc4, aa4, an4, ac4, s4, a4⟩ := by rw [← HR5.out]; exact putR_at 7 hnd rfl rfl
            have r8 : R5 (22, 1, J + 1) = rowS ⟨sa10, sn10, sc10, aa10, an10, ac10, s10, a10⟩ := by rw [← HR5.out]; exact putR_at 8 hnd rfl rfl
            have r9 : R5 (22, 2, J + 1) = rowA ⟨sa10, sn10, sc10, aa10, an10, ac10, s10, a10⟩ := by rw [← HR5.out]; exact putR_at 9 hnd rfl rfl
            have r10 : R5 (44, 1, 0) = ⟨38, 2, some ⟨w15, 0, none⟩, 3, 3, [.slice sa3 sn3 sc3, .slice aa3 an3 ac3, .slice sa5 sn5 sc5, .slice aa5 an5 ac5, .slice sa9 sn9 sc9, .slice aa9 an9 ac9]⟩ := by rw [← HR5.out]; exact putR_at 10 hnd rfl rfl
            have r11 : R5 (44, 2, 0) = ⟨38, 2, some ⟨w15 + 1, 0, none⟩, 3, 3, [.slice sa4 sn4 sc4, .slice aa4 an4 ac4, .slice sa4 sn4 sc4, .slice aa4 an4 ac4, .slice sa10 sn10 sc10, .slice aa10 an10 ac10]⟩ := by rw [← HR5.out]; exact putR_at 11 hnd rfl rfl
            have r12 : R5 (40, 3, 0) = ⟨38, 2, some ⟨g7, 0, none⟩, 1, 1, [.slice sa3 sn3 sc3, .slice aa3 an3 ac3]⟩ := by rw [← HR5.out]; exact putR_at 12 hnd rfl rfl
            have r13 : R5 (40, 4, 0) = ⟨38, 2, some ⟨g7 + 1, 0, none⟩, 1, 1, [.slice sa4 sn4 sc4, .slice aa4 an4 ac4]⟩ := by rw [← HR5.out]; exact putR_at 13 hnd rfl rfl
            have r14 : R5 (40, 5, 0) = ⟨38, 2, some ⟨g9, 0, none⟩, 1, 1, [.slice sa5 sn5 sc5, .slice aa5 an5 ac5]⟩ := by rw [← HR5.out]; exact putR_at 14 hnd rfl rfl
            have r15 : R5 (40, 7, 0) = ⟨38, 2, some ⟨g13, 0, none⟩, 1, 1, [.slice sa9 sn9 sc9, .slice aa9 an9 ac9]⟩ := by rw [← HR5.out]; exact putR_at 15 hnd rfl rfl
            have r16 : R5 (40, 8, 0) = ⟨38, 2, some ⟨g13 + 1, 0, none⟩, 1, 1, [.slice sa10 sn10 sc10, .slice aa10 an10 ac10]⟩ := by rw [← HR5.out]; exact putR_at 16 hnd rfl rfl
            have rN : ∀ t : Nat × Nat × Nat, t.1 ≠ 22 → t.1 ≠ 40 → t.1 ≠ 42 → t.1 ≠ 44 → R5 t = R t := fun t h1 h2 h3 h4 => by
              rw [← HR5.out]
              refine putR_ne fun hm => ?_
              simp only [List.mem_cons, List.not_mem_nil, or_false] at hm
              rcases hm with e | e | e | e | e | e | e | e | e | e | e | e | e | e | e | e | e <;> rw [e] at h1 h2 h3 h4 <;> simp at h1 h2 h3 h4
            have rM : ∀ a j, j < J → R5 (22, a, j) = R (22, a, j) := fun a j hj => by
              rw [← HR5.out]
              refine putR_ne fun hm => ?_
              simp only [List.mem_cons, List.not_mem_nil, or_false, Prod.mk.injEq] at hm
              omega
            have B5 : Qt R5 qb n mu va wa nm (J + 2) := HB.out.congr2 (by omega) (fun t ht => rN t (by omega) (by omega) (by omega) (by omega)) rM
            have CK := Lib.hid (qkeep4_any (p := 42) (N := 3) (q1 := (44, 1, 0)) (q2 := (44, 2, 0)) (la := some ⟨w15, 0, none⟩) (lc := 3) (ma := some ⟨w15 + 1, 0, none⟩) (mc := 3) (ga := fun i => if i = 0 then ⟨sa3, sn3, sc3, aa3, an3, ac3, s3, a3⟩ else if i = 1 then ⟨sa5, sn5, sc5, aa5, an5, ac5, s5, a5⟩ else ⟨sa9, sn9, sc9, aa9, an9, ac9, s9, a9⟩) (wt := fun i => if i = 2 then ⟨sa10, sn10, sc10, aa10, an10, ac10, s10, a10⟩ else ⟨sa4, sn4, sc4, aa4, an4, ac4, s4, a4⟩) (mm := fun i => if i = 2 then J + 1 else J) h19 B5 (by simp) (by simp) (by simp) r10 r11
              (fun i hi => by
                match i, hi with
                | 0, _ => exact ⟨r0, r1⟩
                | 1, _ => exact ⟨r2, r3⟩
                | 2, _ => exact ⟨r4, r5⟩)
              (fun i hi => by
                match i, hi with
                | 0, _ => exact ⟨r6, r7⟩
                | 1, _ => exact ⟨r6, r7⟩
                | 2, _ => exact ⟨r8, r9⟩)
              (fun i hi => by
                have o := OK3.out
                have v3 := V3.out
                have v5 := V5.out
                have v9 := V9.out
                match i, hi with
                | 0, _ => exact ⟨o.1, o.2.1, v3.1.trans v3.2.2.1.symm, v3.2.1.trans v3.2.2.2.symm⟩
                | 1, _ => exact ⟨o.2.2.1, o.2.1, v5.1.trans v3.2.2.1.symm, v5.2.1.trans v3.2.2.2.symm⟩
                | 2, _ => exact ⟨o.2.2.2.1, o.2.2.2.2, v9.1.trans v9.2.2.1.symm, v9.2.1.trans v9.2.2.2.symm⟩)
              (fun i hi => by show (if i = 2 then J + 1 else J) < J + 2; split <;> omega) (by omega) (by omega))
            have RR := Lib.hid (And.intro r8 (And.intro r9 (And.intro r6 (And.intro r7 (And.intro r12 (And.intro r13 (And.intro r14 (And.intro r15 r16))))))))
            have RNN := Lib.hid rN
            have B15 := Lib.hid (h15.belowN)
            have qa0 := H14.out.cell (i := 7) rfl 0 _ rfl
            have qa1 := H14.out.cell (i := 7) rfl 1 _ rfl
            have qb0 := H14.out.cell (i := 10) rfl 0 _ rfl
            have qb1 := H14.out.cell (i := 10) rfl 1 _ rfl
            have c0 := H14.out.cell (i := 13) rfl 0 _ rfl
            have c1 := H14.out.cell (i := 13) rfl 1 _ rfl
            have d0 := H14.out.cell (i := 8) rfl 0 _ rfl
            have d1 := H14.out.cell (i := 8) rfl 1 _ rfl
            have f0 := H14.out.cell (i := 14) rfl 0 _ rfl
            have f1 := H14.out.cell (i := 14) rfl 1 _ rfl
            have ld := (H14.out.rlt (i := 8) rfl).1
            have lf := (H14.out.rlt (i := 14) rfl).1
            clear h15 H15 H17 h18 h19 hnd r0 r1 r2 r3 r4 r5 r6 r7 r8 r9 r10 r11 r12 r13 r14 r15 r16 rN rM B5
            go_wp2_with fail
            rw [HX15.out, HW15.out]
            refine CK.out.mono ?_; rintro e w16 ⟨rfl, n', mu', va', wa', nm', R6, h6, b6, hT6, hN6, hB6, hm6, hm6'⟩
            clear qa0 qa1 qb0 qb1 c0 c1 d0 d1 f0 f1 ld lf CK
            have H6 := Lib.hid h6
            have N6 := Lib.hid hN6
            have T6 := Lib.hid hT6
            have B6 := Lib.hid b6
            have HM6 : Hid (mu' ≤ mu + 754977120) := by show _ ≤ _; omega
            have B16 := Lib.hid (HH.out.base)
            have HBX : Hid (Below base w w16) := (B15.out.mono HH.out.base).trans hB6
            clear h6 b6 hT6 hN6 hB6 hm6 hm6' B15
            obtain ⟨o3, o4, o5, o9, o10⟩ := OK3.out
            obtain ⟨t8, t9, t6, t7, t12, t13, t14, t15, t16⟩ := RR.out
            have u8 := (N6.out (22, 1, J + 1) (by simp) (by simp) (by simp)).trans t8
            have u9 := (N6.out (22, 2, J + 1) (by simp) (by simp) (by simp)).trans t9
            have u6 := (N6.out (22, 1, J) (by simp) (by simp) (by simp)).trans t6
            have u7 := (N6.out (22, 2, J) (by simp) (by simp) (by simp)).trans t7
            have U12 := Lib.hid ((N6.out (40, 3, 0) (by simp) (by simp) (by simp)).trans t12)
            have U13 := Lib.hid ((N6.out (40, 4, 0) (by simp) (by simp) (by simp)).trans t13)
            have U14 := Lib.hid ((N6.out (40, 5, 0) (by simp) (by simp) (by simp)).trans t14)
            have U15 := Lib.hid ((N6.out (40, 7, 0) (by simp) (by simp) (by simp)).trans t15)
            have U16 := Lib.hid ((N6.out (40, 8, 0) (by simp) (by simp) (by simp)).trans t16)
            obtain ⟨q9, k9, -, m1, m2⟩ := T6.out 2 (by omega)
            obtain ⟨q3, k3, -, m3, m4⟩ := T6.out 0 (by omega)
            obtain ⟨q5, k5, -, m5, m6⟩ := T6.out 1 (by omega)
            have IS : Hid (∀ wx, Hold base wx R6 → Ar.Is ⟨sa9, sn9, sc9, aa9, an9, ac9, s9, a9⟩ wx ∧ Ar.Is ⟨sa10, sn10, sc10, aa10, an10, ac10, s10, a10⟩ wx ∧ Ar.Is ⟨sa3, sn3, sc3, aa3, an3, ac3, s3, a3⟩ wx ∧ Ar.Is ⟨sa5, sn5, sc5, aa5, an5, ac5, s5, a5⟩ wx ∧ Ar.Is ⟨sa4, sn4, sc4, aa4, an4, ac4, s4, a4⟩ wx) := fun wx h => ⟨h.isA4 m1 m2 o9, h.isA4 u8 u9 o10, h.isA4 m3 m4 o3, h.isA4 m5 m6 o5, h.isA4 u6 u7 o4⟩
            clear u6 u7 u8 u9 t8 t9 t6 t7 t12 t13 t14 t15 t16 m1 m2 m3 m4 m5 m6 o3 o4 o5 o9 o10 RR
            have a0 := H6.out.cell U15.out 0 _ rfl
            have a1' := H6.out.cell U15.out 1 _ rfl
            have b0 := H6.out.cell U16.out 0 _ rfl
            have b1 := H6.out.cell U16.out 1 _ rfl
            have CE := Lib.hid (eq4_any (IS.out _ H6.out).1 (IS.out _ H6.out).2.1)
            simp only [Ar.v] at CE
            rw [decide_eq_true ⟨V9.out.1.trans V9.out.2.2.1.symm, V9.out.2.1.trans V9.out.2.2.2.symm⟩] at CE
            go_wp2_with fail
            refine CE.out.mono ?_; rintro e w17 ⟨rfl, hb17⟩
            have H7 := Lib.hid (H6.out.via hb17)
            have HBY := Lib.hid (HBX.out.trans (hb17.mono H6.out.base))
            clear hb17 CE a0 a1' b0 b1
            have a0 := H7.out.cell U12.out 0 _ rfl
            have a1' := H7.out.cell U12.out 1 _ rfl
            have b0 := H7.out.cell U13.out 0 _ rfl
            have b1 := H7.out.cell U13.out 1 _ rfl
            have CE := Lib.hid (eq4_any (IS.out _ H7.out).2.2.1 (IS.out _ H7.out).2.2.2.2)
            simp only [Ar.v] at CE
            rw [decide_eq_true ⟨V3.out.1.trans V3.out.2.2.1.symm, V3.out.2.1.trans V3.out.2.2.2.symm⟩] at CE
            go_wp2_with fail
            refine CE.out.mono ?_; rintro e w18 ⟨rfl, hb18⟩
            have H8 := Lib.hid (H7.out.via hb18)
            have HBZ := Lib.hid (HBY.out.trans (hb18.mono H7.out.base))
            clear hb18 CE a0 a1' b0 b1
            have a0 := H8.out.cell U14.out 0 _ rfl
            have a1' := H8.out.cell U14.out 1 _ rfl
            have b0 := H8.out.cell U13.out 0 _ rfl
            have b1 := H8.out.cell U13.out 1 _ rfl
            have CE := Lib.hid (eq4_any (IS.out _ H8.out).2.2.2.1 (IS.out _ H8.out).2.2.2.2)
            simp only [Ar.v] at CE
            rw [decide_eq_true ⟨V5.out.1.trans V3.out.2.2.1.symm, V5.out.2.1.trans V3.out.2.2.2.symm⟩] at CE
            go_wp2_with fail
            refine CE.out.mono ?_; rintro e w19 ⟨rfl, hb19⟩
            have HF : Hid (AgP base w R qb J mu w19) := ⟨n', mu', va', wa', nm', R6, H8.out.via hb19, B6.out, fun t h20 h21 h22 h40 h42 h44 => (N6.out t h20 h21 h42).trans (RNN.out t h22 h40 h42 h44), HBZ.out.trans (hb19.mono H8.out.base), HM6.out⟩
            clear hb19 CE a0 a1' b0 b1
            go_wp2
            go_ret
            exact ⟨rfl, HF.out⟩
end
end Go.Proofs.Ytoippfoeghjdoaa

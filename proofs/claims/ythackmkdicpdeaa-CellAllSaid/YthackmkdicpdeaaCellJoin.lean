/- Contract of cell.Join. -/
import Derived.Test.YthackmkdicpdeaaCellDone
namespace Go.Proofs.Ythackmkdicpdeaa
open Go.RowKit Go.Lib
set_option linter.unusedVariables false
set_option linter.unusedSimpArgs false
attribute [local go_sem] alloc_drewN setCell_drewN
/-- One part taken out, given to a call, and what it became put back behind. -/
theorem Sp.hole2 {F0 : Nat → Prop} {w0 w : World} {L : List Pt} {i : Nat} {A : Pt} (H : Sp F0 w0 w L) (e : L[i]? = some A) : ∃ F, A.P w F ∧ (∀ k, F k → F0 k ∨ w0.heap.size ≤ k) ∧ (∀ (j : Nat) (B : Pt), j ≠ i → L[j]? = some B → ∃ G, B.P w G ∧ ∀ k, G k → ¬ F k) ∧
    ∀ (w' : World) (M : List Pt), Sp F w w' M → Sp F0 w0 w' (L.set i Pt.nil ++ M) := by
  obtain ⟨F, h1, h2, h3, h4⟩ := H.hole e
  have hil := (List.getElem?_eq_some_iff.1 e).1
  refine ⟨F, h1, h2, h3, fun w' M h => ?_⟩
  obtain ⟨F', g1, g2⟩ := h.all
  have q := (h4 w' (Pt.all M) F' g1 g2 h.out).split (i := i) (M := M) (List.getElem?_set_self hil)
  rwa [List.set_set] at q
/-- What Join answers. -/
def jnE (fr : List Int) (l : List (List Int × List Int)) : Int := if bgE fr = 0 then if (jnGo fr [] [] l).1 = 0 then dnE fr (jnGo fr [] [] l).2.2 else (jnGo fr [] [] l).1 else bgE fr
def jnS (fr : List Int) (l : List (List Int × List Int)) : List Int := if bgE fr = 0 then if (jnGo fr [] [] l).1 = 0 then dnS fr (jnGo fr [] [] l).2.1 (jnGo fr [] [] l).2.2 else [] else []
def jnA (fr : List Int) (l : List (List Int × List Int)) : List Int := if bgE fr = 0 then if (jnGo fr [] [] l).1 = 0 then dnA fr (jnGo fr [] [] l).2.1 (jnGo fr [] [] l).2.2 else [] else []
theorem adNC_ok {fr c : List Int} {G : List (List Int × List Int)} {s a : List Int} (h : adE fr c G s a = 0) : adNC fr c G s a = adC c G s ∧ adNG fr c G s a = G ++ [(s, a)] := ⟨by unfold adNC; rw [if_pos h], by unfold adNG; rw [if_pos h]⟩
/-- Behind k of the rounds. -/
def JoinI (w wr : World) (b g : Nat) (fr : List Int) (l : List (List Int × List Int)) (k : Nat) : Prop :=
  ∃ c G, Sp Non w wr [Pt.row ⟨45, 2, some ⟨b, 0, none⟩, 1, 1, [.slice none 0 0, .slice none 0 0]⟩, Pt.joiner g fr c G] ∧ jnGo fr [] [] l = jnGo fr c G (l.drop k)
set_option maxRecDepth 100000 in
set_option maxHeartbeats 3200000 in
theorem join_any {w : World} {fo : Option Addr} {fn fc : Nat} {fr : List Int} (hL : Ls w fo fn fc fr) {co : Option Addr} {cn cc : Nat} {As : List Ar} (hA : Ars w co cn cc As) :
    Calls Try.prog 21 #[.slice fo fn fc, .slice co cn cc] w (MadeE w (jnS fr (As.map Ar.sa2)) (jnA fr (As.map Ar.sa2)) (jnE fr (As.map Ar.sa2))) := by
  obtain ⟨W, HW⟩ : ∃ z, Hid (w.alloc (.cells #[.slice none 0 0, .slice none 0 0] 45) = z) := ⟨_, rfl⟩
  have h1 := (Sp.start Non w).alloc 45 2 1 #[.slice none 0 0, .slice none 0 0] rfl (by decide)
  rw [HW.out] at h1
  have H1_ := h1
  try simp only [List.cons_append, List.nil_append, List.set_cons_zero, List.set_cons_succ, List.map_cons, List.map_nil, List.getD_cons_zero, List.getD_cons_succ, World.size_alloc] at H1_
  have H1 := Lib.hid H1_
  clear H1_
  obtain ⟨b, HB⟩ : ∃ z, Hid (w.heap.size = z) := ⟨_, rfl⟩
  rw [HB.out] at H1
  have HA := Lib.hid hA
  have HL := Lib.hid hL
  obtain ⟨l, HLL⟩ : ∃ z, Hid (As.map Ar.sa2 = z) := ⟨_, rfl⟩
  rw [HLL.out]
  have hcn : As.length = cn := hA.len
  have hct := hA.top
  have hcc := hA.cap
  have hll : l.length = cn := by rw [← HLL.out, List.length_map]; exact hcn
  have hLW := hL.below H1.out.belowN (Nat.le_refl _)
  have eE : jnE fr l = if bgE fr = 0 then if (jnGo fr [] [] l).1 = 0 then dnE fr (jnGo fr [] [] l).2.2 else (jnGo fr [] [] l).1 else bgE fr := rfl
  have eS : jnS fr l = if bgE fr = 0 then if (jnGo fr [] [] l).1 = 0 then dnS fr (jnGo fr [] [] l).2.1 (jnGo fr [] [] l).2.2 else [] else [] := rfl
  have eA : jnA fr l = if bgE fr = 0 then if (jnGo fr [] [] l).1 = 0 then dnA fr (jnGo fr [] [] l).2.1 (jnGo fr [] [] l).2.2 else [] else [] := rfl
  obtain ⟨RE, HRE⟩ : ∃ z, Hid (jnE fr l = z) := ⟨_, rfl⟩
  obtain ⟨RS, HRS⟩ : ∃ z, Hid (jnS fr l = z) := ⟨_, rfl⟩
  obtain ⟨RA, HRA⟩ : ∃ z, Hid (jnA fr l = z) := ⟨_, rfl⟩
  rw [HRE.out, HRS.out, HRA.out]
  rw [HRE.out] at eE
  rw [HRS.out] at eS
  rw [HRA.out] at eA
  clear HRE HRS HRA
  by_cases hb : bgE fr = 0
  · rw [if_pos hb] at eE eS eA
    have CB := Lib.hid (begin_ok hLW hb)
    have HEE := Lib.hid (And.intro eE (And.intro eS eA))
    have HLN := Lib.hid (And.intro hll hcn)
    unfold maxLen at hct
    clear h1 hA hL hLW eE eS eA hb hll hcn
    go_enter Try.func21, Try.ntmps21
    go_wp2_with fail
    rw [HW.out]
    refine CB.out.mono ?_; rintro e w2 ⟨g, rfl, h2⟩
    have H2_ := H1.out.add h2
    try simp only [List.cons_append, List.nil_append, List.set_cons_zero, List.set_cons_succ, List.map_cons, List.map_nil, List.getD_cons_zero, List.getD_cons_succ, World.size_alloc] at H2_
    have H2 := Lib.hid H2_
    clear H2_
    rw [HB.out]
    clear h2
    go_wp2_with fail
    go_loopw [22] (fun v wr => ∃ k : Nat, k ≤ cn ∧ v = .int .i64 k ∧ Hid (JoinI w wr b g fr l k)) (fun v _ => cn - (RowKit.intOf v).toNat)
    case atStart => exact ⟨0, by omega, rfl, ⟨[], [], H2.out, rfl⟩⟩
    case round =>
      obtain ⟨k, hk, rfl, HO⟩ := hrel
      obtain ⟨c, G, hsp, hgo⟩ := HO.out
      have HSP := Lib.hid hsp
      have HGO := Lib.hid hgo
      by_cases hlt : k < cn
      · obtain ⟨⟨ea, en, ec, ba, bn, bc, s, a⟩, hAi⟩ : ∃ B, As[k]? = some B := ⟨As[k]'(by have := HLN.out.2; omega), List.getElem?_eq_getElem _⟩
        obtain ⟨gb, off, hco, hgl, hcs⟩ := HA.out.mem (by omega)
        subst hco
        obtain ⟨e0, e1⟩ := hcs k _ hAi
        simp only at e0 e1
        have e0' := (hsp.belowN.cell (p := ⟨gb, off + k * 2, none⟩) hgl).trans e0
        have e1' := (hsp.belowN.cell (p := ⟨gb, off + (k * 2 + 1), none⟩) hgl).trans e1
        have e1'' : wr.cell? ⟨gb, off + k * 2 + 1, none⟩ = some (.slice ba bn bc) := e1'
        have hIA := HA.out.all k _ hAi
        have hgl' : l[k]? = some (s, a) := by rw [← HLL.out, List.getElem?_map, hAi]; rfl
        have hdr : l.drop k = (s, a) :: l.drop (k + 1) := by
          rw [List.drop_eq_getElem_cons (by have := HLN.out.1; omega)]
          congr 1
          rw [List.getElem?_eq_getElem (by have := HLN.out.1; omega)] at hgl'
          simpa using hgl'
        have hun : jnGo fr c G (l.drop k) = if adE fr c G s a = 0 then jnGo fr (adC c G s) (G ++ [(s, a)]) (l.drop (k + 1)) else (adE fr c G s a, c, G) := by rw [hdr]; rfl
        have H3_ := hsp.alloc 45 2 1 #[.slice ea en ec, .slice ba bn bc] rfl (by decide)
        try simp only [List.cons_append, List.nil_append, List.set_cons_zero, List.set_cons_succ, List.map_cons, List.map_nil, List.getD_cons_zero, List.getD_cons_succ, World.size_alloc] at H3_
        have H3 := Lib.hid H3_
        clear H3_
        obtain ⟨F, hF, hFs, -, hput⟩ := H3.out.hole (i := 1) rfl
        have hFs' : ∀ k, F k → w.heap.size ≤ k := fun k hk => (hFs k hk).elim (fun h => h.elim) id
        have CA := Lib.hid (add4_any hF (hIA.below H3.out.belowN (Nat.le_refl _)) (hIA.off_old hFs'))
        simp only [Ar.v] at CA
        have HPUT := Lib.hid hput
        have HUN := Lib.hid hun
        have hlt' : (k : Int) < cn := by omega
        clear hF hFs hFs' hput hun hdr hgl' hIA hcs e0 e1 hgl hAi hsp hgo
        go_wp2_with fail
        refine CA.out.mono ?_; rintro e w4 ⟨rfl, F', hF', hs', ho'⟩
        have h4 := (HPUT.out w4 _ F' hF' hs' ho').pick [0, 1] (by decide)
        clear hF' hs' ho' HPUT CA e0' e1' e1''
        by_cases he : adE fr c G s a = 0
        · have HJ : Hid (JoinI w w4 b g fr l (k + 1)) := by
            obtain ⟨q1, q2⟩ := adNC_ok he
            rw [q1, q2] at h4
            exact ⟨_, _, h4, by rw [HGO.out, HUN.out, if_pos he]⟩
          rw [he]
          clear h4 he
          go_wp2
          go_roundw
          case rel => exact ⟨k + 1, by omega, by go_num, HJ⟩
          case measure => simp [RowKit.intOf]; omega
        · obtain ⟨m, hmm⟩ : ∃ m, m = adE fr c G s a := ⟨_, rfl⟩
          have hj : (jnGo fr [] [] l).1 = m := by rw [HGO.out, HUN.out, if_neg he, hmm]
          have hm0 : ¬ m = 0 := by rw [hmm]; exact he
          have r1 : RE = m := by rw [HEE.out.1, hj, if_neg hm0]
          have r2 : RS = [] := by rw [HEE.out.2.1, hj, if_neg hm0]
          have r3 : RA = [] := by rw [HEE.out.2.2, hj, if_neg hm0]
          have q0 : (m != 0) = true := by simpa using hm0
          have x0 := h4.cell (i := 0) rfl 0 _ rfl
          have x1 := h4.cell (i := 0) rfl 1 _ rfl
          have f0 := h4.frozen (i := 0) rfl 0
          have f1 := h4.frozen (i := 0) rfl 1
          have HF : Hid (∀ u v, MadeE w RS RA RE (.returned (.tuple #[.agg #[.slice none 0 0, .slice none 0 0], .int .i64 m])) ((w4.setCell ⟨b, 0, none⟩ u).setCell ⟨b, 1, none⟩ v)) := fun u v => by
            rw [r1, r2, r3]
            exact made_nil m ((h4.put (i := 0) rfl 0 u).put (i := 0) rfl 1 v).belowN
          rw [← hmm]
          clear h4 he hj hmm r1 r2 r3 hm0
          go_wp2
          exact bodyPost_ret (v := .tuple #[.agg #[.slice none 0 0, .slice none 0 0], .int .i64 m]) (by simp [results, Try.results21, go_sem, *]) rfl (HF.out _ _)
      · have hge : ¬ ((k : Int) < cn) := by omega
        have hdk : l.drop k = [] := List.drop_of_length_le (by have := HLN.out.1; omega)
        have hj : jnGo fr [] [] l = (0, c, G) := by rw [hgo, hdk]; rfl
        have r1 : RE = dnE fr G := by rw [HEE.out.1, hj, if_pos rfl]
        have r2 : RS = dnS fr c G := by rw [HEE.out.2.1, hj, if_pos rfl]
        have r3 : RA = dnA fr c G := by rw [HEE.out.2.2, hj, if_pos rfl]
        obtain ⟨F, hF, hFs, -, hput⟩ := hsp.hole2 (i := 1) rfl
        have CD := Lib.hid (done_any hF)
        rw [← r1, ← r2, ← r3] at CD
        have HPUT := Lib.hid hput
        clear hsp hgo hdk hj r1 r2 r3 hF hFs hput
        go_wp2_with fail
        refine CD.out.mono ?_; rintro e w5 ⟨⟨za, zn, zc, ta, tn, tc, zs, zt⟩, rfl, hzs, hzt, h5⟩
        simp only at hzs hzt
        have hzs' := hzs.symm
        have hzt' := hzt.symm
        subst hzs' hzt'
        simp only [Ar.v]
        have h6 : Sp Non w w5 [Pt.row ⟨45, 2, some ⟨b, 0, none⟩, 1, 1, [.slice none 0 0, .slice none 0 0]⟩, Pt.arr ⟨za, zn, zc, ta, tn, tc, RS, RA⟩] := by
          exact (HPUT.out w5 _ h5).pick [0, 3] (by decide)
        have x0 := h6.cell (i := 0) rfl 0 _ rfl
        have x1 := h6.cell (i := 0) rfl 1 _ rfl
        have f0 := h6.frozen (i := 0) rfl 0
        have f1 := h6.frozen (i := 0) rfl 1
        have HF : Hid (∀ u v, MadeE w RS RA RE (.returned (.tuple #[.agg #[.slice za zn zc, .slice ta tn tc], .int .i64 RE])) ((w5.setCell ⟨b, 0, none⟩ u).setCell ⟨b, 1, none⟩ v)) := fun u v =>
          ((h6.put (i := 0) rfl 0 u).put (i := 0) rfl 1 v).madeE (i := 1) (B := ⟨za, zn, zc, ta, tn, tc, RS, RA⟩) rfl RE
        clear h5 h6 HPUT
        go_wp2
        exact bodyPost_ret (v := .tuple #[.agg #[.slice za zn zc, .slice ta tn tc], .int .i64 RE]) (by simp [results, Try.results21, go_sem, *]) rfl (HF.out _ _)
  · rw [if_neg hb] at eE eS eA
    have CB := Lib.hid (begin_bad hLW hb)
    subst eE eS eA
    obtain ⟨m, hm⟩ : ∃ m, m = bgE fr := ⟨_, rfl⟩
    rw [← hm] at CB hb ⊢
    have q0 : (m != 0) = true := by simpa using hb
    have x0 := H1.out.cell (i := 0) rfl 0 _ rfl
    have x1 := H1.out.cell (i := 0) rfl 1 _ rfl
    have f0 := H1.out.frozen (i := 0) rfl 0
    have f1 := H1.out.frozen (i := 0) rfl 1
    have HF : Hid (∀ u v, MadeE w [] [] m (.returned (.tuple #[.agg #[.slice none 0 0, .slice none 0 0], .int .i64 m])) ((W.setCell ⟨b, 0, none⟩ u).setCell ⟨b, 1, none⟩ v)) := fun u v =>
      made_nil m ((H1.out.put (i := 0) rfl 0 u).put (i := 0) rfl 1 v).belowN
    clear h1 hA hL hLW hb hm
    go_enter Try.func21, Try.ntmps21
    go_wp2_with fail
    rw [HW.out]
    refine CB.out.mono ?_; rintro e w2 ⟨rfl, hw⟩
    have hw' := hw.symm
    subst hw'
    rw [HB.out]
    go_wp2
    exact bodyPost_ret (v := .tuple #[.agg #[.slice none 0 0, .slice none 0 0], .int .i64 m]) (by simp [results, Try.results21, go_sem, *]) rfl (HF.out _ _)
theorem ars_two {w : World} {b : Nat} {A B : Ar} (hb : b < w.heap.size) (h0 : w.cell? ⟨b, 0, none⟩ = some (.slice A.sa A.sn A.sc)) (h1 : w.cell? ⟨b, 1, none⟩ = some (.slice A.aa A.an A.ac))
    (h2 : w.cell? ⟨b, 2, none⟩ = some (.slice B.sa B.sn B.sc)) (h3 : w.cell? ⟨b, 3, none⟩ = some (.slice B.aa B.an B.ac)) (hA : A.Is w) (hB : B.Is w) : Ars w (some ⟨b, 0, none⟩) 2 2 [A, B] := by
  refine ⟨rfl, Nat.le_refl _, by decide, fun _ => ⟨b, 0, rfl, hb, fun i C hC => ?_⟩, fun i C hC => ?_⟩
  · match i with
    | 0 => simp at hC; subst hC; exact ⟨h0, h1⟩
    | 1 => simp at hC; subst hC; exact ⟨h2, h3⟩
    | i + 2 => simp at hC
  · match i with
    | 0 => simp at hC; subst hC; exact hA
    | 1 => simp at hC; subst hC; exact hB
    | i + 2 => simp at hC
theorem ints_lit (w : World) (zs : List Int) (T : TypeId) (vs : Array Value) (hv : vs = (zs.map (Value.int .i64)).toArray) (h : (zs.length < 1000 && zs.all fun x => decide (-1000 ≤ x) && decide (x ≤ 1000)) = true) (m : Nat) (hm : m = zs.length) :
    Ls (w.alloc (.cells vs T)) (some ⟨w.heap.size, 0, none⟩) m m zs := by
  rw [Bool.and_eq_true, decide_eq_true_eq, List.all_eq_true] at h
  subst hv hm
  refine ls_alloc w zs T (by omega) fun i => ?_
  rcases Nat.lt_or_ge i zs.length with hi | hi
  · have := h.2 (zs.getD i 0) (by rw [List.getD_eq_getElem?_getD, List.getElem?_eq_getElem hi]; exact List.getElem_mem hi)
    simp only [Bool.and_eq_true, decide_eq_true_eq] at this
    omega
  · rw [List.getD_eq_getElem?_getD, List.getElem?_eq_none hi]; simp
end Go.Proofs.Ythackmkdicpdeaa

/- Contract of cell.lay. -/
import Derived.Test.YthackmkdicpdeaaCellMake
import Derived.Test.YthackmkdicpdeaaSepSeq
import Derived.Deep.RegionLaw
import Derived.Deep.CutRange
import Derived.Test.YthackmkdicpdeaaCellAdd
import Derived.Deep.RegionHeld3
namespace Go.Proofs.Ythackmkdicpdeaa
open Go.RowKit Go.Lib Go.Shelf
set_option linter.unusedVariables false
set_option linter.unusedSimpArgs false
attribute [local go_sem] alloc_drewN setCell_drewN
attribute [local go_sem] Oper.semAt_some
/-- A list with k rounds of lay in its middle. -/
def layD (zs : List Int) (off n : Nat) (c s a : List Int) (k : Nat) : List Int := zs.take off ++ layG c s a k ++ zs.drop (off + n)
theorem layD_zero {zs : List Int} {off n : Nat} {c s a : List Int} (hn : n = (pr c).toNat) (h : off + n ≤ zs.length) (hz : (zs.drop off).take n = List.replicate n 0) : layD zs off n c s a 0 = zs := by
  unfold layD layG
  rw [← hn, ← hz, List.append_assoc, ← List.drop_drop, List.take_append_drop, List.take_append_drop]
theorem layD_succ {zs : List Int} {off n : Nat} {c s a : List Int} (hn : n = (pr c).toNat) (h : off + n ≤ zs.length) (k : Nat) {p : Nat} (hp : p < n) (hpe : (plN c (ixL (oneS c s) k) c.length).toNat = p) :
    (layD zs off n c s a k).set (off + p) (a.getD k 0) = layD zs off n c s a (k + 1) := by
  unfold layD
  have l1 : (zs.take off).length = off := by rw [List.length_take]; omega
  have l2 : (layG c s a k).length = n := by rw [layG_len]; exact hn.symm
  rw [List.set_append_left _ _ (by rw [List.length_append, l1, l2]; omega), List.set_append_right _ _ (by rw [l1]; omega), l1, Nat.add_sub_cancel_left]
  simp only [layG, hpe]
theorem layD_len {zs : List Int} {off n : Nat} {c s a : List Int} (hn : n = (pr c).toNat) (h : off + n ≤ zs.length) (k : Nat) : (layD zs off n c s a k).length = zs.length := by
  unfold layD
  rw [List.length_append, List.length_append, List.length_take, List.length_drop, layG_len, ← hn]; omega
theorem layD_rng {zs : List Int} {off n : Nat} {c s a : List Int} (hz : ∀ i, -9223372036854775808 ≤ zs.getD i 0 ∧ zs.getD i 0 ≤ 9223372036854775807) (ha : ∀ i, -9223372036854775808 ≤ a.getD i 0 ∧ a.getD i 0 ≤ 9223372036854775807) (k : Nat) : ∀ i, -9223372036854775808 ≤ (layD zs off n c s a k).getD i 0 ∧ (layD zs off n c s a k).getD i 0 ≤ 9223372036854775807 := by
  have hm : ∀ {l : List Int}, (∀ i, -9223372036854775808 ≤ l.getD i 0 ∧ l.getD i 0 ≤ 9223372036854775807) → ∀ x ∈ l, -9223372036854775808 ≤ x ∧ x ≤ 9223372036854775807 := fun h x hx => by
    obtain ⟨i, hi, rfl⟩ := List.getElem_of_mem hx
    have := h i
    simpa [List.getD, List.getElem?_eq_getElem hi] using this
  have hb : ∀ {l : List Int}, (∀ x ∈ l, -9223372036854775808 ≤ x ∧ x ≤ 9223372036854775807) → ∀ i, -9223372036854775808 ≤ l.getD i 0 ∧ l.getD i 0 ≤ 9223372036854775807 := fun {l} h i => by
    by_cases hi : i < l.length
    · have := h _ (List.getElem_mem hi)
      simpa [List.getD, List.getElem?_eq_getElem hi] using this
    · simp [List.getD, List.getElem?_eq_none (Nat.le_of_not_lt hi)]
  have hg : ∀ k, ∀ x ∈ layG c s a k, -9223372036854775808 ≤ x ∧ x ≤ 9223372036854775807 := fun k => by
    induction k with
    | zero => intro x hx; rw [layG] at hx; have := List.eq_of_mem_replicate hx; omega
    | succ k ih =>
      intro x hx
      rw [layG] at hx
      rcases List.mem_or_eq_of_mem_set hx with h | rfl
      · exact ih x h
      · exact ha k
  refine hb fun x hx => ?_
  unfold layD at hx
  rcases List.mem_append.1 hx with hx | hx
  · rcases List.mem_append.1 hx with hx | hx
    · exact hm hz x (List.mem_of_mem_take hx)
    · exact hg k x hx
  · exact hm hz x (List.mem_of_mem_drop hx)
/-- A place of a shape that is covered is a place of what covers it. -/
theorem cov_in {c s : List Int} (hs : mayE s = 0) (hc : Cov c s) {k : Nat} (hk : (k : Int) < pr s) : inR c (ixL (oneS c s) k) c.length := by
  intro i hi
  have hp := oneS_pos (c := c) hs (by omega)
  have h1 := ixL_rng (s := oneS c s) (p := k) hp i (by rw [oneS_len hc.1]; exact hi)
  have h2 := hc.2 i hi
  omega
theorem oneS_may {c s : List Int} (hc : mayE c = 0) (hs : mayE s = 0) (h : s.length ≤ c.length) : mayE (oneS c s) = 0 := by
  refine mayE_from (fun i => ?_) (by rw [oneS_len h]; exact (mayE_zero hc).2.1) ?_
  · rw [oneS_at]
    split
    · omega
    · exact (mayE_zero hs).1 _
  · unfold oneS
    rw [pm_app]
    have e : ∀ d, pm (List.replicate d 1) = 1 := fun d => by
      induction d with
      | zero => rfl
      | succ d ih => rw [List.replicate_succ, pm_cons', ih]; rfl
    rw [e, Int.one_mul]
    exact (mayE_zero hs).2.2
def LayP (F : Nat → Prop) (w : World) (ao : Option Addr) (T TC : Nat) (zs : List Int) (e : Ending) (w' : World) : Prop :=
  (∃ v, e = .returned v) ∧ ∃ F', (Pt.ints 2 ao T TC zs).P w' F' ∧ (∀ k, F' k → F k ∨ w.heap.size ≤ k) ∧ Out F w w'
set_option maxRecDepth 100000 in
set_option maxHeartbeats 6400000 in
theorem lay_any {w : World} {F : Nat → Prop} {ao : Option Addr} {T TC off n : Nat} {zs : List Int} (hR : (Pt.ints 2 ao T TC zs).P w F) {tao : Option Addr} {tc : Nat} (hto : 0 < n → ∃ g, ao = some ⟨g, 0, none⟩ ∧ tao = some ⟨g, off, none⟩) (hoff : off + n ≤ T) (htc : n ≤ tc)
    {co : Option Addr} {cn cc : Nat} {c : List Int} (hC : Ls w co cn cc c) (hcf : 0 < cn → ∀ k, (Value.slice co cn cc).ownBlock = some k → ¬ F k) {A : Ar} (hA : A.Is w) (hof : A.Off F) (hmc : mayE c = 0) (hma : amE A.s A.a = 0) (hcov : Cov c A.s) (hn : n = (pr c).toNat)
    (hz : (zs.drop off).take n = List.replicate n 0) :
    Calls Try.prog 70 #[.slice tao n tc, .slice co cn cc, A.v] w (LayP F w ao T TC (layD zs off n c A.s A.a (pr (oneS c A.s)).toNat)) := by
  obtain ⟨sa, sn, sc, aa, an, ac, s, a⟩ := A
  simp only [Ar.v] at hma hcov ⊢
  obtain ⟨W, HW⟩ : ∃ z, Hid (((w.alloc (.cells #[.slice tao n tc] 28)).alloc (.cells #[.slice co cn cc] 25)).alloc (.cells #[.slice sa sn sc, .slice aa an ac] 45) = z) := ⟨_, rfl⟩
  have h1 := (((Sp.one hR).alloc 28 1 1 #[.slice tao n tc] rfl (by decide)).alloc 25 1 1 #[.slice co cn cc] rfl (by decide)).alloc 45 2 1 #[.slice sa sn sc, .slice aa an ac] rfl (by decide)
  rw [HW.out] at h1
  have H1_ := h1
  try simp only [List.cons_append, List.nil_append, List.set_cons_zero, List.set_cons_succ, List.map_cons, List.map_nil, List.getD_cons_zero, List.getD_cons_succ, World.size_alloc] at H1_
  have H1 := Lib.hid H1_
  clear H1_
  obtain ⟨hms, hpa⟩ := amE_zero hma
  have hsl : s.length = sn := hA.shp.len
  have hcl : c.length = cn := hC.len
  have hal : a.length = an := hA.ats.len
  have hzl : zs.length = T := by have h := hR.2.1.1; rw [List.length_map, Nat.mul_one] at h; exact h
  have hc8 := (mayE_zero hmc).2.1
  obtain ⟨d, hd⟩ : ∃ d : Nat, cn = sn + d := ⟨cn - sn, by have := hcov.1; omega⟩
  have hdd : (cn : Int) - sn = d := by omega
  have hone : List.replicate d 1 ++ s = oneS c s := by unfold oneS; rw [hcl, hsl, show cn - sn = d by omega]
  have hpo : pr (oneS c s) = an := by rw [pr_oneS, hpa, hal]
  obtain ⟨Nn, hNn⟩ : ∃ N : Nat, an = N := ⟨an, rfl⟩
  have HT := Lib.hid (And.intro hC hA)
  have HOF := Lib.hid (And.intro hcf hof)
  have HMY := Lib.hid (And.intro hmc (And.intro hms hcov))
  have HPO := Lib.hid hpo
  have HLN := Lib.hid (And.intro hn hzl)
  have HZZ := Lib.hid hz
  have HTO := Lib.hid hto
  have HZ0 : Hid (layD zs off n c s a 0 = zs) := layD_zero hn (by omega) hz
  have HONE := Lib.hid hone
  have hd8 : d ≤ 8 := by omega
  have hsn8 : sn ≤ 8 := by omega
  have hdw : IntKind.i64.wrap ((cn : Int) - sn) = d := by rw [hdd]; exact IntWalk.i64_in _ (by omega)
  have HCN := Lib.hid (And.intro hd hal)
  have HAL := Lib.hid hal
  have HAL2 := Lib.hid hA.ats.rng
  clear h1 hR hC hcf hA hof hmc hma hcov hms hpa hsl hcl hal hzl hc8 hd hdd hone hpo hn hz hto hNn
  refine calls_marks Try.func70 rfl ?_
  simp only [Try.ntmps70, List.size_toArray, List.length_cons, List.length_nil, Nat.reduceAdd, Nat.reduceSub, Array.replicate_succ, Array.replicate_zero, List.push_toArray, List.append_toArray, List.nil_append, List.cons_append]
  go_upto_region 1 with fail
  rw [HW.out]
  go_cut [6] from 11 to 22 (fun (v : Value) (wx : World) => ∃ (lo : Option Addr) (ln lc : Nat), v = Value.slice lo ln lc ∧ Hid (Sp F w wx [Pt.ints 2 ao T TC zs, Pt.row ⟨28, 1, some ⟨w.heap.size, 0, none⟩, 1, 1, [.slice tao n tc]⟩, Pt.row ⟨25, 1, some ⟨w.heap.size + 1, 0, none⟩, 1, 1, [.slice co cn cc]⟩, Pt.row ⟨45, 2, some ⟨w.heap.size + 1 + 1, 0, none⟩, 1, 1, [.slice sa sn sc, .slice aa an ac]⟩, Pt.ints 3 lo ln lc (oneS c s)]))
  case first =>
    have H2_ := H1.out.via (adrew1 W)
    try simp only [List.cons_append, List.nil_append, List.set_cons_zero, List.set_cons_succ, List.map_cons, List.map_nil, List.getD_cons_zero, List.getD_cons_succ, World.size_alloc] at H2_
    have H2 := Lib.hid H2_
    clear H2_
    have H3_ := (H1.out.alloc 3 1 1 #[.int .i64 1] rfl (by decide)).via (adrew1 _)
    try simp only [List.cons_append, List.nil_append, List.set_cons_zero, List.set_cons_succ, List.map_cons, List.map_nil, List.getD_cons_zero, List.getD_cons_succ, World.size_alloc] at H3_
    have H3 := Lib.hid H3_
    clear H3_
    have CR := Lib.hid (repeat_one (N := d) (H3.out.rlt (i := 4) rfl).1 (H3.out.cell (i := 4) rfl 0 _ rfl) (by omega))
    have y0 := H1.out.cell (i := 2) rfl 0 _ rfl
    have y1 := H1.out.cell (i := 3) rfl 0 _ rfl
    go_region_held3 (fun w'' => w''.cell? ⟨w.heap.size + 1, 0, none⟩ = some (.slice co cn cc) ∧ w''.cell? ⟨w.heap.size + 1 + 1, 0, none⟩ = some (.slice sa sn sc)) (go_keep)
      (first
      | (go_at_call 90; (with_reducible refine Calls.mono CR.out ?_); rintro e w5 ⟨ro, rn, rc, rfl, hL5, hO5, hB5⟩; have h5 := H3.out.intsNew hO5 hB5 hL5.big hL5.rng; have h6 := h5.alloc 25 1 2 #[.slice ro rn rc, .slice sa sn sc] rfl (by decide); have CT := Lib.hid (concat_two (h6.rlt (i := 6) rfl).1 (h6.cell (i := 6) rfl 0 _ rfl) (h6.cell (i := 6) rfl 1 _ rfl) (h6.ls (i := 5) rfl) (HT.out.2.shp.off h6.out HOF.out.2.1) (by have := hL5.len; rw [List.length_replicate] at this; omega) (show sn ≤ 1000000 by omega)); clear y0 y1; have y0 := h5.cell (i := 2) rfl 0 _ rfl; have y1 := h5.cell (i := 3) rfl 0 _ rfl)
      | (go_at_call 69; (with_reducible refine Calls.mono CT.out ?_); rintro e w7 ⟨lo, ln, lc, rfl, hL7, hO7, hB7⟩; have h8 := h6.intsNew hO7 hB7 hL7.big hL7.rng; clear y0 y1; have y0 := h8.cell (i := 2) rfl 0 _ rfl; have y1 := h8.cell (i := 3) rfl 0 _ rfl))
    all_goals
      have HX : Hid (Sp F w w7 [Pt.ints 2 ao T TC zs, Pt.row ⟨28, 1, some ⟨w.heap.size, 0, none⟩, 1, 1, [.slice tao n tc]⟩, Pt.row ⟨25, 1, some ⟨w.heap.size + 1, 0, none⟩, 1, 1, [.slice co cn cc]⟩, Pt.row ⟨45, 2, some ⟨w.heap.size + 1 + 1, 0, none⟩, 1, 1, [.slice sa sn sc, .slice aa an ac]⟩, Pt.ints 3 lo ln lc (oneS c s)]) := by
        show Sp _ _ _ _
        rw [← HONE.out]
        exact h8.pick [0, 1, 2, 3, 7] (by decide)
      clear h5 h6 h8 hL5 hO5 hB5 hL7 hO7 hB7 y0 y1 CT
      go_wp2_with fail
      go_meet
      exact ⟨lo, ln, lc, rfl, HX⟩
  case rest =>
    obtain ⟨lo, ln, lc, rfl, H4⟩ := hcut
    obtain ⟨U, hU⟩ : ∃ z : World, z = wc := ⟨_, rfl⟩
    subst hU
    have CA := Lib.hid (all_any (H4.out.ls (i := 4) rfl))
    go_wp2_with fail
    refine CA.out.mono ?_; rintro e w9 ⟨bn, bs, qo, qn, qc, rfl, hSQ, hbn, hbs, hQO, hb9⟩
    have h5 := ((H4.out.via hb9).pick [0, 1, 2, 3] (by decide)).toRow (i := 0) rfl
    have hgU : ∀ g, (Value.slice ao T TC).ownBlock = some g → g < U.heap.size := fun g hg => ((((H4.out.pick [0, 1, 2, 3] (by decide)).toRow (i := 0) rfl).rown (i := 0) rfl).1.lt hg).2
    have H5_ := h5
    try simp only [List.cons_append, List.nil_append, List.set_cons_zero, List.set_cons_succ, List.map_cons, List.map_nil, List.getD_cons_zero, List.getD_cons_succ, World.size_alloc] at H5_
    have H5 := Lib.hid H5_
    clear H5_
    have hmo : mayE (oneS c s) = 0 := oneS_may HMY.out.1 HMY.out.2.1 HMY.out.2.2.1
    have HN : Hid (szE (oneS c s) = an) := by show _ = _; unfold szE; rw [if_pos hmo]; exact HPO.out
    have HNE : Hid (∀ g, (Value.slice ao T TC).ownBlock = some g → bn ≠ g ∧ bs ≠ g ∧ ∀ k, (Value.slice qo qn qc).ownBlock = some k → k ≠ g) := fun g hg => by
      have h1 := hgU g hg
      exact ⟨by omega, by omega, fun k hk => by have := (own_block hQO hk).1; omega⟩
    have HSQ := Lib.hid hSQ
    have HW9 : Hid (w.heap.size ≤ w9.heap.size) := H5.out.out.size
    have HI0 : Hid (Sp F w w9 [Pt.row ⟨2, 1, ao, T, TC, (layD zs off n c s a 0).map (Value.int .i64)⟩, Pt.row ⟨28, 1, some ⟨w.heap.size, 0, none⟩, 1, 1, [.slice tao n tc]⟩, Pt.row ⟨25, 1, some ⟨w.heap.size + 1, 0, none⟩, 1, 1, [.slice co cn cc]⟩, Pt.row ⟨45, 2, some ⟨w.heap.size + 1 + 1, 0, none⟩, 1, 1, [.slice sa sn sc, .slice aa an ac]⟩] ∧ SeqAt w9 bn bs qo qn qc (oneS c s)) := by
      rw [HZ0.out]; exact ⟨H5.out, hSQ⟩
    have HZB := Lib.hid ((H4.out.ipure (i := 0) rfl))
    clear h5 hgU hmo hSQ hbn hbs hQO hb9 CA
    simp only [seqV]
    go_wp2_with fail
    refine (wpIn_wide (n := 6)).1 ?_
    refine wpIn_range_seq (n := 6) (by omega) (gf := 100) (lb := #[.pointer (some ⟨bn, 0, none⟩), .pointer (some ⟨bs, 0, none⟩)]) rfl (enters_of Try.func100 (by kernel_rfl) rfl) rndV (fun _ => rfl) (RndIs (oneS c s)) an (fun W => SeqAt W bn bs qo qn qc (oneS c s))
      (fun k W => Sp F w W [Pt.row ⟨2, 1, ao, T, TC, (layD zs off n c s a k).map (Value.int .i64)⟩, Pt.row ⟨28, 1, some ⟨w.heap.size, 0, none⟩, 1, 1, [.slice tao n tc]⟩, Pt.row ⟨25, 1, some ⟨w.heap.size + 1, 0, none⟩, 1, 1, [.slice co cn cc]⟩, Pt.row ⟨45, 2, some ⟨w.heap.size + 1 + 1, 0, none⟩, 1, 1, [.slice sa sn sc, .slice aa an ac]⟩] ∧ SeqAt W bn bs qo qn qc (oneS c s)) (fun _ _ => False)
      (fun k => (sp_bears HW9.out).and (seqAt_bears _)) (fun c W W' row h _ _ => h) (fun k x => rnd_bears _) (fun k W h => h.2) HI0.out
      (fun l J Jx W hK hJ hY h0 => allseq_in HN.out 5 l (by omega) J Jx W hK hJ hY h0) ?a1 ?assign ?body ?done ?stop
    case assign =>
      intro l x W K hK
      simp [rndV]
      gi_wp2
      exact hK
    case body =>
      intro l k x W hkN hI hx
      obtain ⟨x1, xo, xn, xc⟩ := x
      obtain ⟨hx1, hx2⟩ := hx
      simp only at hx1 hx2
      have hx1' := hx1.symm
      subst hx1'
      obtain ⟨hi1, hi2⟩ := hI
      have HI1 := Lib.hid hi1
      have HI2 := Lib.hid hi2
      have hps : pr s = an := by rw [← pr_oneS c s]; exact HPO.out
      have hin : inR c (ixL (oneS c s) k) c.length := cov_in HMY.out.2.1 HMY.out.2.2 (by rw [hps]; omega)
      have hil : (ixL (oneS c s) k).length = c.length := by rw [ixL_len, oneS_len HMY.out.2.2.1]
      have hpl := plN_bd (s := c) (a := ixL (oneS c s) k) (k := c.length) (mayE_zero HMY.out.1).1 (Nat.le_refl _) hin
      rw [List.take_length] at hpl
      have CP := Lib.hid (place_any (HT.out.1.off hi1.out HOF.out.1) hx2)
      rw [show plV c (ixL (oneS c s) k) = plN c (ixL (oneS c s) k) c.length by rw [plV, if_pos ⟨HMY.out.1, hil, hin⟩], show plE c (ixL (oneS c s) k) = 0 by rw [plE, if_pos HMY.out.1, if_pos hil, if_pos hin]] at CP
      obtain ⟨p, hp⟩ : ∃ p : Nat, plN c (ixL (oneS c s) k) c.length = p := ⟨_, (Int.toNat_of_nonneg hpl.1).symm⟩
      have HPE : Hid ((plN c (ixL (oneS c s) k) c.length).toNat = p) := by show _ = _; rw [hp]; rfl
      rw [hp] at CP hpl
      have hpn : p < n := by have := HLN.out.1; omega
      have HSU := Lib.hid (layD_succ (zs := zs) (off := off) (n := n) (c := c) (s := s) (a := a) HLN.out.1 (by rw [HLN.out.2]; exact hoff) k hpn HPE.out)
      obtain ⟨g, hao, htao⟩ := HTO.out (by omega)
      have HNG := Lib.hid (HNE.out g (by rw [hao]; rfl))
      have HAT := (HT.out.2.off hi1.out HOF.out.2).ats
      obtain ⟨ab, aoff, haa, hac⟩ := HAT.at (by simp only; omega)
      simp only at haa hac
      subst haa htao hao
      have a0 := hac k hkN
      have b0 := hi1.cell (i := 1) rfl 0 _ rfl
      have b1 := hi1.cell (i := 2) rfl 0 _ rfl
      have b2 := hi1.cell (i := 3) rfl 1 _ rfl
      have g0 : W.cell? ⟨g, off + p, none⟩ = some (.int .i64 ((layD zs off n c s a k).getD (off + p) 0)) := hi1.cell (i := 0) rfl (off + p) _ (getD_map_int _ _ (by rw [layD_len HLN.out.1 (by rw [HLN.out.2]; exact hoff), HLN.out.2]; omega))
      have g1 := hi1.frozen (i := 0) rfl (off + p)
      have hkN' : (k : Int) < an := by omega
      have hpn' : (p : Int) < n := by omega
      clear hi1 hi2 hx2 hin hil hpl hp hps HAT hac
      gi_wp2_with fail
      refine ⟨trivial, (CallsIn.inRound l (callsIn_wide.2 CP.out)).mono ?_⟩; rintro e' v1 ⟨rfl, hv⟩
      have hv' := hv.symm
      subst hv'
      gi_wp2_with fail
      have HK2 : Hid (KeepsOthers W (W.setCell ⟨g, off + p, none⟩ (.int .i64 (a.getD k 0))).drew ∧ Sp F w (W.setCell ⟨g, off + p, none⟩ (.int .i64 (a.getD k 0))).drew [Pt.row ⟨2, 1, some ⟨g, 0, none⟩, T, TC, (layD zs off n c s a (k + 1)).map (Value.int .i64)⟩, Pt.row ⟨28, 1, some ⟨w.heap.size, 0, none⟩, 1, 1, [.slice (some ⟨g, off, none⟩) n tc]⟩, Pt.row ⟨25, 1, some ⟨w.heap.size + 1, 0, none⟩, 1, 1, [.slice co cn cc]⟩, Pt.row ⟨45, 2, some ⟨w.heap.size + 1 + 1, 0, none⟩, 1, 1, [.slice sa sn sc, .slice (some ⟨ab, aoff, none⟩) an ac]⟩] ∧ SeqAt (W.setCell ⟨g, off + p, none⟩ (.int .i64 (a.getD k 0))).drew bn bs qo qn qc (oneS c s)) := by
        refine ⟨(KeepsOthers.setCell _ _ _).trans (keeps_of_below (adrew1 _)), ?_, (HI2.out.set HNG.out.1 HNG.out.2.1 HNG.out.2.2 _).below (adrew1 _)⟩
        have h := ((HI1.out.put (i := 0) rfl (off + p) (.int .i64 (a.getD k 0)))).via (adrew1 _)
        rw [← List.map_set, HSU.out] at h
        exact h
      clear HW H1 HT HOF HMY HPO HLN HZZ HZ0 HONE hd8 hsn8 hdw HCN HAL HAL2 H4 H5 HN HNE HSQ HW9 HI0 HZB HI1 HI2 CP HPE HSU HNG b1
      gi_region
      all_goals exact HK2.out
    case done =>
      rintro D W hD hI hKD
      obtain ⟨hi1, hi2⟩ := hI
      have hfin := sp_bears HW9.out W _ (some D) hi1 (grownBy_putObj' W D (.deferred none)) (fun r e => by cases e; exact ⟨hD, _, hKD, rfl⟩)
      have HF : Hid (LayP F w ao T TC (layD zs off n c s a (pr (oneS c s)).toNat) (.returned (.tuple #[])) (W.putObj D (.deferred none))) := by
        rw [HPO.out, Int.toNat_natCast]
        have h2 := hfin.sub (i := 0) rfl (Pt.ints 2 ao T TC (layD zs off n c s a an)) (fun F hF => ⟨⟨HZB.out.1, layD_rng HZB.out.2 HAL2.out an⟩, hF⟩)
        obtain ⟨F', h3, h4⟩ := h2.get (i := 0) rfl
        exact ⟨⟨_, rfl⟩, F', h3, h4, h2.out⟩
      have HKD := Lib.hid hKD
      clear hi1 hi2 hfin hKD
      (try simp only [Exit.then])
      exact marks_ret1 (v := .tuple #[]) rfl HKD.out (by simp [results, Try.results70, go_sem, *]) HF.out
    case stop =>
      rintro D c W _ h _
      exact h.elim
end Go.Proofs.Ythackmkdicpdeaa

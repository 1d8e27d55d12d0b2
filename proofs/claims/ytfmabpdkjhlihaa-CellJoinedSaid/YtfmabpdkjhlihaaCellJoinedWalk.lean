/- A region that draws its order and only reads, inside a round of a range over a function. Contract of abacuslaw4's stands, where an array stands in its place. CellJoined: the walk of the statement's function. -/
import Derived.Sort.BigQuietIn
import Derived.RangeFuncCalls
import Derived.Test.YtfmabpdkjhlihaaCellLaws
namespace Go.Proofs.Ytfmabpdkjhlihaa
set_option linter.unusedVariables false
theorem wide_fn (f : FuncId) : Fence.wide.fn f = True := rfl
section
variable {n : Nat} {P : Program} {ops : Array Oper} {Q : Exit → Act → World → Prop} {md : Region.Mode} {lb : Nat}
theorem oper_round {o : Oper} {a : Act} {w : World} {K : Act → World → Prop} (hd : ∀ c, o.op ≠ .defer c) (h : o.wpIn Fence.wide n P a w K Q) : o.wpIn (Fence.wide.inRound lb) n P a w K Q := by
  unfold Oper.wpIn at *
  refine ⟨h.1, ?_⟩
  have h2 := h.2
  rw [show Oper.semAt Fence.wide.round a.eval o = execOp a.eval o from Oper.semAt_none _ _] at h2
  rw [show Oper.semAt (Fence.wide.inRound lb).round a.eval o = execOp a.eval o from Oper.semAt_some _ _ _ hd]
  generalize (execOp a.eval o).run P w = r at *
  cases r with
  | ok x w' =>
    cases x <;> simp only [Oper.uponIn] at h2 ⊢ <;>
      first
        | exact h2
        | exact ⟨h2.1, CallsIn.inRound lb h2.2⟩
  | halt x w' => cases x <;> simp only [Oper.uponIn] at h2 ⊢ <;> exact h2
theorem wpAnyIn_round (hd : ∀ (i : Nat) (o : Oper), ops[i]? = some o → ∀ c, o.op ≠ .defer c) : ∀ (fuel : Nat) (listed : Array Bool) (a : Act) (w : World),
    wpAnyIn Fence.wide n P md ops Q fuel listed a w → wpAnyIn (Fence.wide.inRound lb) n P md ops Q fuel listed a w
  | 0, _, _, _, h => h
  | fuel + 1, listed, a, w, h => ⟨h.1, fun i hi => by
    have h2 := h.2 i hi
    unfold wpOpIn at *
    split
    · rename_i e; simp only [e] at h2; exact wpAnyIn_round hd fuel _ _ _ h2
    · rename_i o e
      simp only [e] at h2
      split
      · rename_i hw
        rw [if_pos hw] at h2
        exact Oper.wpIn_mono (fun a w => wpAnyIn_round hd fuel _ a w) (oper_round (hd i o e) h2)
      · rename_i hw
        rw [if_neg hw] at h2
        exact ⟨h2.1, wpAnyIn_round hd fuel _ _ _ h2.2⟩⟩
/-- One walk of the lexical order serves every order, inside a round. -/
theorem wpIn_round_quiet {id : Nat} {a : Act} {w : World} {l : List Oper} (hm : P.follows .mixedOrders = true) (hB : Region.lexB .any l.toArray = true) (hd : l.all (fun o => match o.op with | .defer _ => false | _ => true) = true)
    (h : wpQuietIn Fence.wide n P l.toArray (fun w' => ∃ n, w' = w.drewN n) (fun a' => ∀ w', (∃ n, w' = w.drewN n) → Q .normal a' w') l a) : (Code.region id l.toArray true).wpIn (Fence.wide.inRound lb) n P Q a w := by
  simp only [Region.lexB, Bool.and_eq_true] at hB
  have hd' : ∀ (i : Nat) (o : Oper), l.toArray[i]? = some o → ∀ c, o.op ≠ .defer c := fun i o e c hc => by
    have hm := List.mem_of_getElem? (by simpa using e : l[i]? = some o)
    have := List.all_eq_true.1 hd o hm
    rw [hc] at this
    exact absurd this (by simp)
  refine wpIn_region_any hm (wpAnyIn_round hd' _ _ _ _ (wpAnyIn_of_quiet (C := fun w' => ∃ n, w' = w.drewN n) (Q := fun a' => ∀ w', (∃ n, w' = w.drewN n) → Q .normal a' w') rfl (fun _ w' hw' h => h w' hw') _ _ _ _ ⟨1, rfl⟩ ?_))
  have := wpAnyQIn_lex (F := Fence.wide) (n := n) (C := fun w' => ∃ n, w' = w.drewN n) (md := .any) hB.1 l 0 (Array.replicate l.toArray.size false) a (by simp) (by simpa using hB.2) h
  simpa using this
end
end Go.Proofs.Ytfmabpdkjhlihaa
namespace Go.Proofs.Ytfmabpdkjhlihaa
open Go.RowKit Go.Lib
set_option linter.unusedVariables false
set_option linter.unusedSimpArgs false
attribute [local go_sem] alloc_drewN setCell_drewN
attribute [local go_sem] Oper.semAt_some wide_fn
attribute [local simp] wide_fn
set_option maxRecDepth 100000 in
set_option maxHeartbeats 6400000 in
theorem stands_any {w : World} {Z : Ar} (hZ : Z.Is w) {P : Nat} {co : Option Addr} {cn cc : Nat} {c : List Int} (hC : Ls w co cn cc c) {A : Ar} (hA : A.Is w) (hmc : mayE c = 0) (hma : amE A.s A.a = 0) (hcov : Cov c A.s)
    (hP : ∀ q, q < (pr c).toNat → Z.a.getD (P + q) 0 = (layL c A.s A.a).getD q 0) (hlen : P + (pr c).toNat ≤ Z.an) :
    Calls Try.prog 23 #[Z.v, .int .i64 P, .slice co cn cc, A.v] w (RetB w (.bool true)) := by
  obtain ⟨za, zn, zc, xa, xn, xc, z, x⟩ := Z
  obtain ⟨sa, sn, sc, aa, an, ac, s, a⟩ := A
  simp only [Ar.v]
  simp only at hma hcov hP hlen
  obtain ⟨W, HW⟩ : ∃ z, Hid ((((((w.alloc (.cells #[.slice za zn zc, .slice xa xn xc] 25)).alloc (.cells #[.int .i64 P] 3)).alloc (.cells #[.slice co cn cc] 22)).alloc (.cells #[.slice sa sn sc, .slice aa an ac] 25)).alloc (.cells #[.bool false] 4)) = z) := ⟨_, rfl⟩
  obtain ⟨hms, hpa⟩ := amE_zero hma
  have hsl : s.length = sn := hA.shp.len
  have hcl : c.length = cn := hC.len
  have hal : a.length = an := hA.ats.len
  have hc8 := (mayE_zero hmc).2.1
  obtain ⟨d, hd⟩ : ∃ d : Nat, cn = sn + d := ⟨cn - sn, by have := hcov.1; omega⟩
  have hdd : (cn : Int) - sn = d := by omega
  have hdw : IntKind.i64.wrap ((cn : Int) - sn) = d := by rw [hdd]; exact IntWalk.i64_in _ (by omega)
  have hd0 : ¬ ((d : Int) < 0) := by omega
  have hd8 : d ≤ 8 := by omega
  have hcn8 : cn ≤ 8 := by omega
  have hsn8 : sn ≤ 8 := by omega
  have hpb := pr_nonneg hmc
  obtain ⟨N, hN⟩ : ∃ N : Nat, pr c = N := ⟨(pr c).toNat, by omega⟩
  have hNN : (pr c).toNat = N := by omega
  rw [hNN] at hP hlen
  have h1 := (((((Sp.start Non w).alloc 25 2 1 #[.slice za zn zc, .slice xa xn xc] rfl (by decide)).alloc 3 1 1 #[.int .i64 P] rfl (by decide)).alloc 22 1 1 #[.slice co cn cc] rfl (by decide)).alloc 25 2 1 #[.slice sa sn sc, .slice aa an ac] rfl (by decide)).alloc 4 1 1 #[.bool false] rfl (by decide)
  rw [HW.out] at h1
  have hWs : W.heap.size = w.heap.size + 1 + 1 + 1 + 1 + 1 := by rw [← HW.out]; simp
  have h2 := h1.alloc 3 1 1 #[.int .i64 d] rfl (by decide)
  have H1_ := h1
  try simp only [List.cons_append, List.nil_append, List.set_cons_zero, List.set_cons_succ, List.map_cons, List.map_nil, List.getD_cons_zero, List.getD_cons_succ, World.size_alloc] at H1_
  have H1 := Lib.hid H1_
  clear H1_
  have H2_ := h2
  try simp only [List.cons_append, List.nil_append, List.set_cons_zero, List.set_cons_succ, List.map_cons, List.map_nil, List.getD_cons_zero, List.getD_cons_succ, World.size_alloc] at H2_
  have H2 := Lib.hid H2_
  clear H2_
  have HWS := Lib.hid hWs
  have HT := Lib.hid (And.intro hZ (And.intro hC hA))
  have HMY := Lib.hid (And.intro hmc (And.intro hms (And.intro hcov (And.intro hN hpa))))
  have HPP := Lib.hid (And.intro hP hlen)
  have HLN := Lib.hid (And.intro hsl (And.intro hcl (And.intro hal hd)))
  have HSZ : Hid (szE c = N) := by show _ = _; unfold szE; rw [if_pos hmc, hN]
  have y0 := H1.out.cell (i := 2) rfl 0 _ rfl
  have y1 := H1.out.cell (i := 3) rfl 0 _ rfl
  clear h1 h2 hWs hZ hC hA hma hcov hP hlen hms hpa hsl hcl hal hN hNN hpb hmc hd
  refine calls_marks Try.func23 rfl ?_
  simp only [Try.ntmps23, List.size_toArray, List.length_cons, List.length_nil, Nat.reduceAdd, Nat.reduceSub, Array.replicate_succ, Array.replicate_zero, List.push_toArray, List.append_toArray, List.nil_append, List.cons_append]
  go_upto_region 1 with fail
  rw [HW.out]
  have CA := Lib.hid (all_any (HT.out.2.1.below H2.out.belowN (Nat.le_refl _)))
  have f0 : (W.alloc (.cells #[.int .i64 d] 3)).cell? ⟨W.heap.size, 0, none⟩ = some (.int .i64 d) := by simp [go_sem]
  have y2 := H2.out.cell (i := 2) rfl 0 _ rfl
  go_wp2_with fail
  refine CA.out.mono ?_; rintro e w9 ⟨bn, bs, qo, qn, qc, rfl, hSQ, hbn, hbs, hQO, hb9⟩
  have H5_ := H2.out.via hb9
  try simp only [List.cons_append, List.nil_append, List.set_cons_zero, List.set_cons_succ, List.map_cons, List.map_nil, List.getD_cons_zero, List.getD_cons_succ, World.size_alloc] at H5_
  have H5 := Lib.hid H5_
  clear H5_
  have HW9 : Hid (w.heap.size ≤ w9.heap.size) := H5.out.out.size
  have HI0 : Hid (Sp Non w w9 [Pt.row ⟨25, 2, some ⟨w.heap.size, 0, none⟩, 1, 1, [.slice za zn zc, .slice xa xn xc]⟩, Pt.row ⟨3, 1, some ⟨w.heap.size + 1, 0, none⟩, 1, 1, [.int .i64 P]⟩, Pt.row ⟨22, 1, some ⟨w.heap.size + 1 + 1, 0, none⟩, 1, 1, [.slice co cn cc]⟩, Pt.row ⟨25, 2, some ⟨w.heap.size + 1 + 1 + 1, 0, none⟩, 1, 1, [.slice sa sn sc, .slice aa an ac]⟩, Pt.row ⟨4, 1, some ⟨w.heap.size + 1 + 1 + 1 + 1, 0, none⟩, 1, 1, [.bool false]⟩, Pt.row ⟨3, 1, some ⟨W.heap.size, 0, none⟩, 1, 1, [.int .i64 d]⟩] ∧ SeqAt w9 bn bs qo qn qc c) := ⟨H5.out, hSQ⟩
  clear hSQ hbn hbs hQO hb9 CA f0 y0 y1 y2 H1 H2 H5
  simp only [seqV]
  go_wp2_with fail
  refine (wpIn_wide (n := 6)).1 ?_
  refine wpIn_range_seq (n := 6) (by omega) (gf := 89) (lb := #[.pointer (some ⟨bn, 0, none⟩), .pointer (some ⟨bs, 0, none⟩)]) rfl (enters_of Try.func89 (by kernel_rfl) rfl) rndV (fun _ => rfl) (RndIs c) N (fun W => SeqAt W bn bs qo qn qc c)
    (fun k V => Sp Non w V [Pt.row ⟨25, 2, some ⟨w.heap.size, 0, none⟩, 1, 1, [.slice za zn zc, .slice xa xn xc]⟩, Pt.row ⟨3, 1, some ⟨w.heap.size + 1, 0, none⟩, 1, 1, [.int .i64 P]⟩, Pt.row ⟨22, 1, some ⟨w.heap.size + 1 + 1, 0, none⟩, 1, 1, [.slice co cn cc]⟩, Pt.row ⟨25, 2, some ⟨w.heap.size + 1 + 1 + 1, 0, none⟩, 1, 1, [.slice sa sn sc, .slice aa an ac]⟩, Pt.row ⟨4, 1, some ⟨w.heap.size + 1 + 1 + 1 + 1, 0, none⟩, 1, 1, [.bool false]⟩, Pt.row ⟨3, 1, some ⟨W.heap.size, 0, none⟩, 1, 1, [.int .i64 d]⟩] ∧ SeqAt V bn bs qo qn qc c) (fun _ _ => False)
    (fun k => (sp_bears HW9.out).and (seqAt_bears _)) (fun c W W' row h _ _ => h) (fun k x => rnd_bears _) (fun k W h => h.2) HI0.out
    (fun l J Jx W hK hJ hY h0 => allseq_in HSZ.out 5 l (by omega) J Jx W hK hJ hY h0) ?a1 ?assign ?body ?done ?stop
  case assign =>
    intro l x W K hK
    simp [rndV]
    gi_wp2
    exact hK
  case body =>
    intro l k x V hkN hI hx
    obtain ⟨x1, xo, xn', xc'⟩ := x
    obtain ⟨hx1, hx2⟩ := hx
    simp only at hx1 hx2
    have hx1' := hx1.symm
    subst hx1'
    have HI := Lib.hid hI
    have htl : (ixL c k).length = c.length := ixL_len _ _
    have hxn : xn' = cn := by have := hx2.len; rw [htl, HLN.out.2.1] at this; exact this.symm
    subst hxn
    obtain ⟨TT, HTT⟩ : ∃ z, Hid (ixL c k = z) := ⟨_, rfl⟩
    rw [HTT.out] at hx2
    have HX2 := Lib.hid hx2
    have hT0 : ∀ i, i < xn' → 0 ≤ TT.getD i 0 := fun i hi => by
      have hp := pos_all (mayE_zero HMY.out.1).1 (by have := HMY.out.2.2.2.1; omega)
      rw [← HTT.out]
      exact (ixL_rng (p := (k : Int)) hp i (by have := HLN.out.2.1; omega)).1
    have HT0 := Lib.hid hT0
    have u0 := HI.out.1.cell (i := 2) rfl 0 _ rfl
    have u1 := HI.out.1.cell (i := 5) rfl 0 _ rfl
    have u2 := HI.out.1.cell (i := 3) rfl 0 _ rfl
    have u3 := HI.out.1.cell (i := 3) rfl 1 _ rfl
    have u4 := HI.out.1.cell (i := 1) rfl 0 _ rfl
    have u5 := HI.out.1.cell (i := 0) rfl 1 _ rfl
    have HLS : Hid (Ls V sa sn sc s ∧ Ls V aa an ac a ∧ Ls V xa xn xc x) := ⟨HT.out.2.2.shp.below HI.out.1.belowN (Nat.le_refl _), HT.out.2.2.ats.below HI.out.1.belowN (Nat.le_refl _), HT.out.1.ats.below HI.out.1.belowN (Nat.le_refl _)⟩
    clear hx1 htl hI hx2 hT0
    gi_wp2_with fail
    gi_loopw [12, 13] (fun v12 v13 wr => ∃ (i : Nat) (B : Bool), i ≤ xn' ∧ v13 = .int .i64 i ∧ v12 = .bool B ∧ wr = V ∧ Hid (B = true ↔ ∀ j, j < i → TT.getD j 0 < (oneS c s).getD j 0)) (fun _ v13 _ => xn' - (RowKit.intOf v13).toNat)
    case atStart => exact ⟨0, true, by omega, rfl, rfl, rfl, by simp [Hid]⟩
    case round =>
      obtain ⟨i, B, hi, rfl, rfl, rfl, HB⟩ := hrel
      by_cases hlt : i < xn'
      · have hlt' : (i : Int) < xn' := by omega
        obtain ⟨ib, io, e1, hc1⟩ := HX2.out.at (by omega)
        subst e1
        have a0 := hc1 i hlt
        have HNX : Hid ((decide (TT.getD i 0 < (oneS c s).getD i 0) && B) = true ↔ ∀ j, j < i + 1 → TT.getD j 0 < (oneS c s).getD j 0) := by
          show _ ↔ _
          rw [Bool.and_eq_true, decide_eq_true_eq, HB.out]
          constructor
          · rintro ⟨h1, h2⟩ j hj
            by_cases e : j = i
            · subst e; exact h1
            · exact h2 j (by omega)
          · intro h
            exact ⟨h i (by omega), fun j hj => h j (by omega)⟩
        clear hc1
        by_cases hid : i < d
        · have q1 : ¬ ((d : Int) ≤ i) := by omega
          have ho : (oneS c s).getD i 0 = 1 := by rw [oneS_at, if_pos (by have := HLN.out.1; have := HLN.out.2.1; have := HLN.out.2.2.2; omega)]
          rw [ho] at HNX
          clear ho
          cases B
          · gi_wp2
            go_roundw
            case rel => exact ⟨i + 1, false, by omega, by go_num, by simp, by simp, Lib.hid (by rw [← HNX.out]; simp)⟩
            case measure => simp [RowKit.intOf]; omega
          · gi_wp2
            go_roundw
            case rel => exact ⟨i + 1, decide (TT.getD i 0 < 1), by omega, by go_num, by simp, by simp, Lib.hid (by rw [← HNX.out]; simp)⟩
            case measure => simp [RowKit.intOf]; omega
        · have q1 : (d : Int) ≤ i := by omega
          obtain ⟨j, hj⟩ : ∃ j : Nat, i = d + j := ⟨i - d, by omega⟩
          have hjn : j < sn := by have := HLN.out.2.2.2; omega
          obtain ⟨sb, so, e2, hc2⟩ := HLS.out.1.at (by omega)
          subst e2
          have a1 := hc2 j hjn
          have q2 : (i : Int) - d = j := by omega
          have q3 : IntKind.i64.wrap ((i : Int) - d) = j := by rw [q2]; exact IntWalk.i64_in _ (by omega)
          have q4 : (j : Int) < sn := by omega
          have ho : (oneS c s).getD i 0 = s.getD j 0 := by rw [oneS_at, if_neg (by have := HLN.out.1; have := HLN.out.2.1; have := HLN.out.2.2.2; omega)]; congr 1; have := HLN.out.1; have := HLN.out.2.1; have := HLN.out.2.2.2; omega
          rw [ho] at HNX
          clear ho hc2 hj hid
          cases B
          · gi_wp2
            go_roundw
            case rel => exact ⟨i + 1, false, by omega, by go_num, by simp, by simp, Lib.hid (by rw [← HNX.out]; simp)⟩
            case measure => simp [RowKit.intOf]; omega
          · gi_wp2
            go_roundw
            case rel => exact ⟨i + 1, decide (TT.getD i 0 < s.getD j 0), by omega, by go_num, by simp, by simp, Lib.hid (by rw [← HNX.out]; simp)⟩
            case measure => simp [RowKit.intOf]; omega
      · have hge : ¬ ((i : Int) < xn') := by omega
        obtain rfl : i = xn' := by omega
        have hin : B = true ↔ inR (oneS c s) (ixL c k) c.length := by
          rw [HB.out, HTT.out]
          constructor
          · intro h j hj
            have hj' : j < i := by have := HLN.out.2.1; omega
            exact ⟨HT0.out j hj', h j hj'⟩
          · intro h j hj
            exact (h j (by have := HLN.out.2.1; omega)).2
        have hla := layL_at (a := a) HMY.out.1 HMY.out.2.1 HMY.out.2.2.1 k (by have := HMY.out.2.2.2.1; omega)
        rw [← HPP.out.1 k hkN] at hla
        obtain ⟨xb, xoff, e3, hc3⟩ := HLS.out.2.2.at (by have := HPP.out.2; omega)
        subst e3
        have b0 := hc3 (P + k) (by have := HPP.out.2; omega)
        clear hc3
        have w1 : ¬ ((xn : Int) ≤ (P : Int) + k) := by have := HPP.out.2; omega
        have w2 : (P : Int) + k < xn := by have := HPP.out.2; omega
        have hxb := HLS.out.2.2.big
        cases B
        · rw [if_neg (fun h => by have := hin.2 h; cases this)] at hla
          rw [hla] at b0
          clear hin hla
          gi_wp2
          exact ⟨keeps_of_below (Below.refl _ _), HI.out⟩
        · have hr := hin.1 rfl
          rw [if_pos hr] at hla
          obtain ⟨p1, p2⟩ := lay_place (a := a) HMY.out.1 HMY.out.2.1 HMY.out.2.2.1 k (by have := HMY.out.2.2.2.1; omega) hr
          have hdl : c.length - s.length = d := by have := HLN.out.1; have := HLN.out.2.1; have := HLN.out.2.2.2; omega
          have hbd := plN_bd (s := oneS c s) (a := ixL c k) (k := c.length) (fun j => by
            rw [oneS_at]; split
            · omega
            · exact (mayE_zero HMY.out.2.1).1 _) (by rw [oneS_len HMY.out.2.2.1.1]; exact Nat.le_refl _) hr
          rw [show (oneS c s).take c.length = oneS c s from by rw [← oneS_len (s := s) HMY.out.2.2.1.1, List.take_length], pr_oneS, HMY.out.2.2.2.2, HLN.out.2.2.1] at hbd
          rw [hdl, HTT.out] at p1 p2
          obtain ⟨p, hp⟩ : ∃ p : Nat, plN (oneS c s) (ixL c k) c.length = p := ⟨_, (Int.toNat_of_nonneg hbd.1).symm⟩
          rw [hp] at hla hbd
          rw [HTT.out] at hp
          rw [hp] at p2
          rw [Int.toNat_natCast] at hla
          have hpa : p < an := by omega
          have hpa' : (p : Int) < an := by omega
          obtain ⟨ab, aoff, e4, hc4⟩ := HLS.out.2.1.at (by omega)
          subst e4
          have b1 := hc4 p hpa
          rw [← hla] at b1
          have hTl : (TT.drop d).take (i - d) = TT.drop d := List.take_of_length_le (by rw [List.length_drop]; have := HX2.out.len; omega)
          have hcx := HX2.out.cap
          have w4 : (d : Int) ≤ i := by have := HLN.out.2.2.2; omega
          have w5 : ¬ ((an : Int) ≤ p) := by omega
          have hlx := HX2.out.cutI d (i - d) (by have := HLN.out.2.2.2; omega)
          rw [hTl] at hlx
          by_cases hcd : xc' = d
          · rw [if_pos hcd] at hlx
            have cp := fun q => place_any (HLS.out.1.drew q) (hlx.drew q)
            simp only [p1, p2, hcd, Nat.sub_self] at cp
            have CP := Lib.hid cp
            clear hc4 p1 p2 hdl hbd hp hla hTl hlx cp hr hin HB
            gi_wp2_with fail
            refine wpIn_round_quiet (by kernel_rfl) (by kernel_rfl) (by kernel_rfl) ?_
            repeat (gi_big_quiet_step (first | (gi_at_call 40; refine CallsIn.quiet_of_same (callsIn_wide.2 (RetS.still (CP.out _))))))
            refine wpQuietIn_nil ?_
            intro _ hw'
            obtain ⟨nq, hw''⟩ := hw'
            subst hw''
            gi_wp2
            exact ⟨keeps_of_below (adrew _ _), HI.out.1.via (adrew _ _), HI.out.2.below (adrew _ _)⟩
          · rw [if_neg hcd] at hlx
            have cp := fun q => place_any (HLS.out.1.drew q) (hlx.drew q)
            simp only [p1, p2] at cp
            have CP := Lib.hid cp
            clear hc4 p1 p2 hdl hbd hp hla hTl hlx cp hr hin HB
            gi_wp2_with fail
            refine wpIn_round_quiet (by kernel_rfl) (by kernel_rfl) (by kernel_rfl) ?_
            repeat (gi_big_quiet_step (first | (gi_at_call 40; refine CallsIn.quiet_of_same (callsIn_wide.2 (RetS.still (CP.out _))))))
            refine wpQuietIn_nil ?_
            intro _ hw'
            obtain ⟨nq, hw''⟩ := hw'
            subst hw''
            gi_wp2
            exact ⟨keeps_of_below (adrew _ _), HI.out.1.via (adrew _ _), HI.out.2.below (adrew _ _)⟩
  case done =>
    rintro D V hD hI hKD
    obtain ⟨hi1, hi2⟩ := hI
    have r0 := hi1.cell (i := 4) rfl 0 _ rfl
    have r1 := hi1.frozen (i := 4) rfl 0
    have HI1 := Lib.hid hi1
    have HKD := Lib.hid hKD
    clear hi1 hi2 hKD
    go_wp2
    have hK' := (KeepsOthers.setCell V ⟨w.heap.size + 1 + 1 + 1 + 1, 0, none⟩ (.bool true)).same D _ HKD.out rfl
    have hc5 := cell_kept (World.cell?_setCell_same' V ⟨w.heap.size + 1 + 1 + 1 + 1, 0, none⟩ (.bool true) (by rw [r0]; rfl)) (grownBy_putObj' _ D (.deferred none)) (fun r e => by cases e; exact ⟨_, hK', rfl⟩)
    have hfin := sp_bears HW9.out _ _ (some D) (HI1.out.put (i := 4) rfl 0 (.bool true)) (grownBy_putObj' _ D (.deferred none)) (fun r e => by cases e; exact ⟨hD, _, hK', rfl⟩)
    have HF : Hid (RetB w (.bool true) (.returned (.bool true)) ((V.setCell ⟨w.heap.size + 1 + 1 + 1 + 1, 0, none⟩ (.bool true)).putObj D (.deferred none))) := RetB.mk rfl hfin.belowN
    clear hfin
    (try simp only [Exit.then])
    exact marks_ret1 (v := .bool true) rfl hK' (by simp [results, Try.f23, go_sem, hc5]) HF.out
  case stop =>
    rintro D c W _ h _
    exact h.elim
end Go.Proofs.Ytfmabpdkjhlihaa
namespace Go.Proofs.Ytfmabpdkjhlihaa
open Go.RowKit Go.Lib
set_option linter.unusedVariables false
set_option linter.unusedSimpArgs false
attribute [local go_sem] alloc_drewN setCell_drewN
theorem Ars.take {w : World} {ao : Option Addr} {n c : Nat} {As : List Ar} (h : Ars w ao n c As) {m : Nat} (hm : m ≤ n) : Ars w ao m c (As.take m) := by
  have key : ∀ (i : Nat) (A : Ar), (As.take m)[i]? = some A → As[i]? = some A := fun i A hA => by
    rw [List.getElem?_take] at hA
    split at hA
    · exact hA
    · cases hA
  exact ⟨by rw [List.length_take]; have := h.len; omega, by have := h.cap; omega, h.top, fun h0 => by
    obtain ⟨b, off, e, hlt, hc⟩ := h.mem (by omega)
    exact ⟨b, off, e, hlt, fun i A hA => hc i A (key i A hA)⟩, fun i A hA => h.all i A (key i A hA)⟩
theorem joiner_ok {F0 : Nat → Prop} {w0 w : World} {L : List Pt} {i g : Nat} {fr c : List Int} {G : List (List Int × List Int)} (H : Sp F0 w0 w L) (e : L[i]? = some (Pt.joiner g fr c G)) : mayE fr = 0 ∧ 0 < pr fr ∧ Jok fr c G := by
  obtain ⟨F, ⟨x, ⟨h1, h2, h3, h4⟩, hall⟩, -⟩ := H.get e
  exact ⟨h1, h2, h3⟩
/-- Some arrays' shapes, as a slice of slices. -/
def shV (As : List Ar) : List Value := As.map fun A => .slice A.sa A.sn A.sc
theorem shapes_lss {w0 w : World} {L : List Pt} {i : Nat} {ao so : Option Addr} {n c k sc : Nat} {As : List Ar} (hA : Ars w0 ao n c As) (H : Sp Non w0 w L) (hk : k ≤ 300) (e : L[i]? = some (Pt.row ⟨22, 1, so, k, sc, shV (As.take k)⟩)) :
    Lss w so k sc ((As.take k).map fun A => A.s) := by
  obtain ⟨c1, c2, c3, c4, c5⟩ := H.rcap e
  have hl : (As.take k).length = k := by simpa [shV] using c3
  refine ⟨by rw [List.length_map, hl], c1, by omega, c2, fun h0 => ?_⟩
  obtain ⟨g, rfl⟩ := c5 (by omega)
  refine ⟨g, 0, rfl, (H.rlt e).1, fun j hj => ?_⟩
  have hj' : j < (As.take k).length := by omega
  have hget : (As.take k)[j]? = some (As.take k)[j] := List.getElem?_eq_getElem hj'
  have hA' : As[j]? = some (As.take k)[j] := by
    rw [List.getElem?_take, if_pos hj] at hget
    exact hget
  refine ⟨(As.take k)[j].sa, (As.take k)[j].sn, (As.take k)[j].sc, ?_, ?_⟩
  · rw [Nat.zero_add]
    exact H.cell e j _ (by rw [shV, List.getElem?_map, hget]; rfl)
  · have h1 := (hA.all j _ hA').shp.below H.belowN (Nat.le_refl _)
    have h2 : ((As.take k).map fun A => A.s).getD j [] = (As.take k)[j].s := by simp only [List.getD, List.getElem?_map, hget]; rfl
    rw [h2]; exact h1
theorem news1 (w : World) (T : TypeId) (x : Value) : ∀ (q : Nat) (v : Value), [x][q]? = some v → (w.alloc (.cells #[x] T)).cell? (Addr.add ⟨w.heap.size, 0, none⟩ q) = some v := by
  intro q v hv
  match q with
  | 0 => simp at hv; subst hv; simp [go_sem]
  | q + 1 => simp at hv
def JdI (w wr : World) (g b7 : Nat) (fr : List Int) (l : List (List Int × List Int)) (X : Ar) (As : List Ar) (k : Nat) (so : Option Addr) (sc : Nat) : Prop :=
  ∃ c, Sp Non w wr [Pt.joiner g fr c (l.take k), Pt.arr X, Pt.row ⟨25, 2, some ⟨b7, 0, none⟩, 1, 1, [.slice X.sa X.sn X.sc, .slice X.aa X.an X.ac]⟩, Pt.row ⟨22, 1, so, k, sc, shV (As.take k)⟩] ∧ jnGo fr [] [] l = jnGo fr c (l.take k) (l.drop k)
set_option maxRecDepth 100000 in
set_option maxHeartbeats 6400000 in
theorem walkCellJoined {w : World} {fo : Option Addr} {fn fc : Nat} {fr : List Int} (hL : Ls w fo fn fc fr) {ao : Option Addr} {an0 ac : Nat} {As0 : List Ar} (hA : Ars w ao an0 ac As0 ∧ an0 * 48 ≤ 140737488355328) :
    Calls Try.prog 5 #[.slice fo fn fc, .slice ao an0 ac] w (RetB w (.bool true)) := by
  have BG := Lib.hid (begun4_any w)
  have HA0 := Lib.hid hA.1
  have HL := Lib.hid hL
  have hcap := hA.1.cap
  have hbig := hA.2
  have hcc : (0 : Int) ≤ ac := by omega
  clear hA hL
  go_enter Try.func5, Try.ntmps5
  go_wp2_with fail
  refine BG.out.mono ?_; rintro e w1 ⟨rfl, hb1⟩
  have H1_ := (Sp.start Non w).via hb1
  try simp only [List.cons_append, List.nil_append, List.set_cons_zero, List.set_cons_succ, List.map_cons, List.map_nil, List.getD_cons_zero, List.getD_cons_succ, World.size_alloc] at H1_
  have H1 := Lib.hid H1_
  clear H1_
  clear hb1 BG
  go_upto_if 27 with fail
  go_cut [1] from 27 to 29 (fun v wx => ∃ n : Nat, n ≤ 300 ∧ v = .slice ao n ac ∧ Hid (∃ As, Ars w ao n ac As) ∧ Hid (Sp Non w wx []))
  case first =>
    by_cases h3 : 300 < an0
    · have h3' : (300 : Int) < an0 := by omega
      have q1 : ¬ ac = 0 := by omega
      have q2 : (300 : Int) ≤ ac := by omega
      have q3 : (0 : Int) < ac := by omega
      have HT : Hid (∃ As, Ars w ao 300 ac As) := ⟨_, HA0.out.take (by omega)⟩
      go_wp2_with fail
      go_meet
      exact ⟨300, by omega, rfl, HT, H1⟩
    · have h3' : ¬ ((300 : Int) < an0) := by omega
      go_wp2_with fail
      go_meet
      exact ⟨an0, by omega, rfl, ⟨_, HA0.out⟩, H1⟩
  case rest =>
    obtain ⟨cn, hcn, rfl, HA1, H2⟩ := hcut
    obtain ⟨U, hU⟩ : ∃ z : World, z = wc := ⟨_, rfl⟩
    subst hU
    obtain ⟨As, hA⟩ := HA1.out
    have HA := Lib.hid hA
    obtain ⟨l, HLL⟩ : ∃ z, Hid (As.map Ar.sa2 = z) := ⟨_, rfl⟩
    have hcl : As.length = cn := hA.len
    have hll : l.length = cn := by rw [← HLL.out, List.length_map]; exact hcl
    have HLN := Lib.hid (And.intro hll hcl)
    have hLW := HL.out.below H2.out.belowN (Nat.le_refl _)
    have hcap := hA.cap
    clear HA1 hA HA0 H1 hcl hll hbig
    have CB0 := Lib.hid (And.intro (begin_bad hLW) (begin_ok hLW))
    have CJ0 := Lib.hid (fun w2 (hb : Below w.heap.size w w2) => join_any (HL.out.below hb (Nat.le_refl _)) (HA.out.below hb (Nat.le_refl _)))
    rw [HLL.out] at CJ0
    have eE : jnE fr l = if bgE fr = 0 then if (jnGo fr [] [] l).1 = 0 then dnE fr (jnGo fr [] [] l).2.2 else (jnGo fr [] [] l).1 else bgE fr := rfl
    have eS : jnS fr l = if bgE fr = 0 then if (jnGo fr [] [] l).1 = 0 then dnS fr (jnGo fr [] [] l).2.1 (jnGo fr [] [] l).2.2 else [] else [] := rfl
    have eA : jnA fr l = if bgE fr = 0 then if (jnGo fr [] [] l).1 = 0 then dnA fr (jnGo fr [] [] l).2.1 (jnGo fr [] [] l).2.2 else [] else [] := rfl
    obtain ⟨RE, HRE⟩ : ∃ z, Hid (jnE fr l = z) := ⟨_, rfl⟩
    obtain ⟨RS, HRS⟩ : ∃ z, Hid (jnS fr l = z) := ⟨_, rfl⟩
    obtain ⟨RA, HRA⟩ : ∃ z, Hid (jnA fr l = z) := ⟨_, rfl⟩
    rw [HRE.out, HRS.out, HRA.out] at CJ0
    rw [HRE.out] at eE
    rw [HRS.out] at eS
    rw [HRA.out] at eA
    clear HRE HRS HRA hLW
    by_cases hb : bgE fr = 0
    · rw [if_pos hb] at eE eS eA
      have CB := Lib.hid (CB0.out.2 hb)
      have HE := Lib.hid (And.intro eE (And.intro eS eA))
      have hfm : mayE fr = 0 := by
        unfold bgE at hb
        by_cases h : mayE fr = 0
        · exact h
        · rw [if_neg h] at hb; exact absurd hb h
      have CS0 := Lib.hid (fun wx (hb : Below w.heap.size w wx) => size_any (HL.out.below hb (Nat.le_refl _)))
      have hpb := pr_nonneg hfm
      obtain ⟨P, hP⟩ : ∃ P : Nat, pr fr = P := ⟨(pr fr).toNat, by omega⟩
      have hsz : szE fr = P := by unfold szE; rw [if_pos hfm, hP]
      rw [hsz, hfm] at CS0
      have HPP := Lib.hid hP
      have hPb : P ≤ 4096 := by omega
      clear eE eS eA hb CB0 hfm hpb hP hsz
      go_wp2_with fail
      refine CB.out.mono ?_; rintro e w2 ⟨g, rfl, h2⟩
      have H3_ := H2.out.add h2
      try simp only [List.cons_append, List.nil_append, List.set_cons_zero, List.set_cons_succ, List.map_cons, List.map_nil, List.getD_cons_zero, List.getD_cons_succ, World.size_alloc] at H3_
      have H3 := Lib.hid H3_
      clear H3_
      clear h2 CB H2
      have CJ := Lib.hid (CJ0.out w2 H3.out.belowN)
      go_wp2_with fail
      refine CJ.out.mono ?_; rintro e w3 ⟨⟨xa, xn, xc, ya, yn, yc, xs, ys⟩, rfl, hI, hxs, hys, hO, hb⟩
      simp only at hxs hys
      have hxs' := hxs.symm
      have hys' := hys.symm
      subst hxs' hys'
      simp only [Ar.v]
      have H4_ := ((H3.out.arrNew hI hO hb).alloc 25 2 1 #[.slice xa xn xc, .slice ya yn yc] rfl (by decide)).rowNil 22 1
      try simp only [List.cons_append, List.nil_append, List.set_cons_zero, List.set_cons_succ, List.map_cons, List.map_nil, List.getD_cons_zero, List.getD_cons_succ, World.size_alloc] at H4_
      have H4 := Lib.hid H4_
      clear H4_
      have CS := Lib.hid (CS0.out _ H4.out.belowN)
      clear hI hxs hys hO hb CJ CJ0 H3
      go_wp2_with fail
      refine CS.out.mono ?_; rintro e w4 ⟨rfl, hw4⟩
      have hw4' := hw4.symm
      subst hw4'
      obtain ⟨b7, HB7⟩ : ∃ z, Hid (w3.heap.size = z) := ⟨_, rfl⟩
      rw [HB7.out] at H4 ⊢
      go_wp2_with fail
      have HS0 : Hid (JdI w (w3.alloc (.cells #[.slice xa xn xc, .slice ya yn yc] 25)) g b7 fr l ⟨xa, xn, xc, ya, yn, yc, RS, RA⟩ As 0 none 0) := ⟨[], H4.out, rfl⟩
      clear H4 CS hw4
      go_loopw [11, 12] (fun v11 v12 wr => ∃ (k : Nat) (so : Option Addr) (sc : Nat), k ≤ cn ∧ v12 = .int .i64 k ∧ v11 = .slice so k sc ∧ Hid (JdI w wr g b7 fr l ⟨xa, xn, xc, ya, yn, yc, RS, RA⟩ As k so sc)) (fun _ v12 _ => cn - (RowKit.intOf v12).toNat)
      case atStart => exact ⟨0, none, 0, by omega, rfl, rfl, HS0⟩
      case round =>
        clear HS0
        obtain ⟨k, so, sc, hk, rfl, rfl, HO⟩ := hrel
        obtain ⟨c, hsp, hgo⟩ := HO.out
        obtain ⟨j1, j2, j3⟩ := joiner_ok hsp (i := 0) rfl
        have jle : k ≤ P := by have := j3.le; rw [HPP.out, List.length_take, HLN.out.1] at this; omega
        obtain ⟨F, hF, hFs, -, hput⟩ := hsp.hole2 (i := 0) rfl
        have CD := Lib.hid (done_any hF)
        have hGl : (l.take k).length = k := by rw [List.length_take, HLN.out.1]; omega
        by_cases hlt : k < cn
        · have hlt' : (k : Int) < cn := by omega
          obtain ⟨⟨ea, en, ec, ba, bn, bc, s, a⟩, hAi⟩ : ∃ B, As[k]? = some B := ⟨As[k]'(by have := HLN.out.2; omega), List.getElem?_eq_getElem _⟩
          obtain ⟨gb, off, hco, hgl, hcs⟩ := HA.out.mem (by omega)
          subst hco
          obtain ⟨e0, e1⟩ := hcs k _ hAi
          simp only at e0 e1
          have hIA := HA.out.all k _ hAi
          have hgl' : l[k]? = some (s, a) := by rw [← HLL.out, List.getElem?_map, hAi]; rfl
          have hdr : l.drop k = (s, a) :: l.drop (k + 1) := by
            rw [List.drop_eq_getElem_cons (by have := HLN.out.1; omega)]
            congr 1
            rw [List.getElem?_eq_getElem (by have := HLN.out.1; omega)] at hgl'
            simpa using hgl'
          have htk : l.take k ++ [(s, a)] = l.take (k + 1) := by
            rw [List.take_add_one, hgl']; rfl
          have hat : As.take (k + 1) = As.take k ++ [⟨ea, en, ec, ba, bn, bc, s, a⟩] := by
            rw [List.take_add_one, hAi]; rfl
          have hun : jnGo fr c (l.take k) (l.drop k) = if adE fr c (l.take k) s a = 0 then jnGo fr (adC c (l.take k) s) (l.take k ++ [(s, a)]) (l.drop (k + 1)) else (adE fr c (l.take k) s a, c, l.take k) := by rw [hdr]; rfl
          rw [htk] at hun
          have HUN := Lib.hid hun
          have HGO := Lib.hid hgo
          have HPUT := Lib.hid hput
          have HIA := Lib.hid hIA
          have HEE := Lib.hid (And.intro e0 (And.intro e1 (And.intro hgl hat)))
          have hM : adE fr c (l.take k) s a = if k = P then 4 else adE fr c (l.take k) s a := by
            by_cases h : k = P
            · rw [if_pos h]; unfold adE; rw [if_pos (by rw [hGl, HPP.out, h])]
            · rw [if_neg h]
          have HMM := Lib.hid hM
          have HTK := Lib.hid htk
          have hD : dnE fr (l.take k) = if k = P then 0 else 11 := by
            unfold dnE; rw [hGl, HPP.out]
            by_cases h : k = P
            · rw [if_neg (by omega), if_pos h]
            · rw [if_pos (by omega), if_neg h]
          rw [hD] at CD
          obtain ⟨DD, HDD⟩ : ∃ z, Hid ((if k = P then (0 : Int) else 11) = z) := ⟨_, rfl⟩
          rw [HDD.out] at CD
          clear hF hFs hput hun hdr hgl' hIA hcs e0 e1 hgl hAi hsp hgo hD hM j1 j2 j3 htk hat hGl
          go_wp2_with fail
          refine CD.out.mono ?_; rintro e w5 ⟨⟨za, zn, zc, ta, tn, tc, zs, zt⟩, rfl, hzs, hzt, h5⟩
          simp only [Ar.v]
          have h6 := (HPUT.out w5 _ h5).pick [4, 1, 2, 3] (by decide)
          have h7 := h6.alloc 25 2 1 #[.slice za zn zc, .slice ta tn tc] rfl (by decide)
          have H7_ := h7
          try simp only [List.cons_append, List.nil_append, List.set_cons_zero, List.set_cons_succ, List.map_cons, List.map_nil, List.getD_cons_zero, List.getD_cons_succ, World.size_alloc] at H7_
          have H7 := Lib.hid H7_
          clear H7_
          clear h5 h6 h7 hzs hzt HPUT CD HO
          obtain ⟨F2, hF2, hFs2, -, hput2⟩ := H7.out.hole (i := 0) rfl
          have hFs2' : ∀ k, F2 k → w.heap.size ≤ k := fun k hk => (hFs2 k hk).elim (fun h => h.elim) id
          have CA := Lib.hid (add4_any hF2 (HIA.out.below H7.out.belowN (Nat.le_refl _)) (HIA.out.off_old hFs2'))
          simp only [Ar.v] at CA
          have HPUT := Lib.hid hput2
          have e0 := (H7.out.belowN.cell (p := ⟨gb, off + k * 2, none⟩) HEE.out.2.2.1).trans HEE.out.1
          have e1 : (w5.alloc (.cells #[.slice za zn zc, .slice ta tn tc] 25)).cell? ⟨gb, off + k * 2 + 1, none⟩ = some (.slice ba bn bc) := (H7.out.belowN.cell (p := ⟨gb, off + (k * 2 + 1), none⟩) HEE.out.2.2.1).trans HEE.out.2.1
          clear hF2 hFs2 hFs2' hput2
          go_wp2_with fail
          refine CA.out.mono ?_; rintro e w6 ⟨rfl, F', hF', hs', ho'⟩
          have h8 := (HPUT.out w6 _ F' hF' hs' ho').pick [0, 1, 2, 3] (by decide)
          clear hF' hs' ho' HPUT CA e0 e1 H7
          obtain ⟨m, HM⟩ : ∃ m, Hid (adE fr c (l.take k) s a = m) := ⟨_, rfl⟩
          rw [HM.out] at HUN HMM ⊢
          have HM6 := Lib.hid h8.belowN
          by_cases hm0 : m = 0
          · have hkP : ¬ k = P := fun h => by have := HMM.out; rw [if_pos h] at this; omega
            have hD : DD = 11 := by rw [← HDD.out, if_neg hkP]
            have q1 : ¬ ((P : Int) ≤ k) := by omega
            have q2 : ((P : Int) ≤ k) = False := by simpa using q1
            subst hD
            have he : adE fr c (l.take k) s a = 0 := by rw [HM.out]; exact hm0
            obtain ⟨p1, p2⟩ := adNC_ok he
            rw [p1, p2] at h8
            have e0 := (h8.belowN.cell (p := ⟨gb, off + k * 2, none⟩) HEE.out.2.2.1).trans HEE.out.1
            obtain ⟨i4, hi4, hza4, hzb4, hzc4⟩ := info_parts (P := Try.prog) (e := 22) (z := .slice none 0 0) (size := 1) (bytes := 24) (by kernel_rfl)
            have hmx : k + 1 ≤ maxLen := by unfold maxLen; omega
            have hbyt : (k + 1) * 24 ≤ 140737488355328 := by omega
            have HV := Lib.hid (h8.via (abal w6 (.cells #[.slice ea en ec] 22)))
            have HNX : Hid (∀ (b9 : Option Addr) (d9 : Nat) (w9 : World), Sp Non w w9 [Pt.joiner g fr (adC c (l.take k) s) (l.take k ++ [(s, a)]), Pt.arr ⟨xa, xn, xc, ya, yn, yc, RS, RA⟩, Pt.row ⟨25, 2, some ⟨b7, 0, none⟩, 1, 1, [.slice xa xn xc, .slice ya yn yc]⟩, Pt.row ⟨22, 1, b9, k + 1, d9, shV (As.take k) ++ [.slice ea en ec]⟩] → JdI w w9 g b7 fr l ⟨xa, xn, xc, ya, yn, yc, RS, RA⟩ As (k + 1) b9 d9) := by
              intro b9 d9 w9 h9
              refine ⟨adC c (l.take k) s, ?_, by rw [HGO.out, HUN.out, if_pos hm0]⟩
              rw [← HTK.out, HEE.out.2.2.2]
              simp only [shV, List.map_append] at h9 ⊢
              exact h9
            clear h8 he p1 p2
            go_wp2_with (at_builtin; refine Sp.wpList_append HV.out rfl _ _ 52 rfl 22 i4 (.slice none 0 0) 1 24 Try.underlying52 hi4 hza4 hzb4 hzc4 rfl (by decide) (i := 3) rfl rfl ⟨w6.heap.size, 0, none⟩ 1 1 rfl [.slice ea en ec] rfl (news1 w6 _ _) (by simp [Value.oneCell']) hmx hbyt ?_)
            intro b9 d9 w9 h9
            have HJ := Lib.hid (HNX.out b9 d9 w9 h9)
            clear h9 HNX HV e0
            go_wp2
            go_roundw
            case rel => exact ⟨k + 1, b9, d9, by omega, by go_num, rfl, HJ⟩
            case measure => simp [RowKit.intOf]; omega
          · have hj : (jnGo fr [] [] l).1 = m := by rw [HGO.out, HUN.out, if_neg hm0]
            have r1 : RE = m := by rw [HE.out.1, hj, if_neg hm0]
            have r3 : RA = [] := by rw [HE.out.2.2, hj, if_neg hm0]
            have hyn : yn = 0 := by have := (h8.isA (i := 1) rfl).ats.len; simp only at this; rw [r3] at this; simpa using this.symm
            have q0 : (m != 0) = true := by simpa using hm0
            subst hyn
            subst r1
            have x1 := h8.cell (i := 2) rfl 1 _ rfl
            by_cases hkP : k = P
            · have h4 : RE = 4 := by have := HMM.out; rwa [if_pos hkP] at this
              have hD : DD = 0 := by rw [← HDD.out, if_pos hkP]
              have q2 : (P : Int) ≤ k := by omega
              subst hD
              rw [h4]
              clear h8 hj r3 hm0 q0
              go_wp2
              go_ret
              exact RetB.mk rfl HM6.out
            · have hD : DD = 11 := by rw [← HDD.out, if_neg hkP]
              have q2 : ¬ ((P : Int) ≤ k) := by omega
              subst hD
              clear h8 hj r3 hm0
              go_wp2
              go_ret
              exact RetB.mk rfl HM6.out
        · obtain rfl : k = cn := by omega
          have hge : ¬ ((k : Int) < k) := by omega
          have htl : l.take k = l := List.take_of_length_le (by have := HLN.out.1; omega)
          have hdk : l.drop k = [] := List.drop_of_length_le (by have := HLN.out.1; omega)
          have hta : As.take k = As := List.take_of_length_le (by have := HLN.out.2; omega)
          rw [htl] at CD hput hgo j3 hGl
          rw [hdk] at hgo
          have hj : jnGo fr [] [] l = (0, c, l) := by rw [hgo]; rfl
          have r1 : RE = dnE fr l := by rw [HE.out.1, hj, if_pos rfl]
          have r2 : RS = dnS fr c l := by rw [HE.out.2.1, hj, if_pos rfl]
          have r3 : RA = dnA fr c l := by rw [HE.out.2.2, hj, if_pos rfl]
          have hD : dnE fr l = if k = P then 0 else 11 := by
            unfold dnE; rw [hGl, HPP.out]
            by_cases h : k = P
            · rw [if_neg (by omega), if_pos h]
            · rw [if_pos (by omega), if_neg h]
          rw [← r1, ← r2, ← r3] at CD
          have HPUT := Lib.hid hput
          have HJ := Lib.hid (And.intro hj (And.intro j3 (And.intro hGl (And.intro r2 r3))))
          have HR := Lib.hid (r1.trans hD)
          rw [hta] at hsp
          clear hF hFs hput hgo hsp j1 j2 j3 hj hGl r1 r2 r3 hD htl hdk HE
          go_wp2_with fail
          refine CD.out.mono ?_; rintro e w5 ⟨⟨za, zn, zc, ta, tn, tc, zs, zt⟩, rfl, hzs, hzt, h5⟩
          simp only at hzs hzt
          have hzs' := hzs.symm
          have hzt' := hzt.symm
          subst hzs' hzt'
          simp only [Ar.v]
          have h6 := (HPUT.out w5 _ h5).pick [4, 1, 2, 3, 5] (by decide)
          have h7 := h6.alloc 25 2 1 #[.slice za zn zc, .slice ta tn tc] rfl (by decide)
          rw [hta] at h7
          have H7_ := h7
          try simp only [List.cons_append, List.nil_append, List.set_cons_zero, List.set_cons_succ, List.map_cons, List.map_nil, List.getD_cons_zero, List.getD_cons_succ, World.size_alloc] at H7_
          have H7 := Lib.hid H7_
          clear H7_
          have ce := eq4_any (H7.out.isA (i := 1) rfl) (H7.out.isA (i := 4) rfl)
          simp only [Ar.v, true_and, and_self, decide_true] at ce
          have CE := Lib.hid ce
          have x0 := H7.out.cell (i := 2) rfl 0 _ rfl
          have x1 := H7.out.cell (i := 2) rfl 1 _ rfl
          have x2 := H7.out.cell (i := 5) rfl 0 _ rfl
          have x3 := H7.out.cell (i := 5) rfl 1 _ rfl
          clear h5 h6 h7 hzs hzt HPUT CD HO ce
          by_cases hkP : k = P
          · have h0 : RE = 0 := by have := HR.out; rwa [if_pos hkP] at this
            subst h0
            subst hkP
            go_wp2_with fail
            refine CE.out.mono ?_; rintro e w6 ⟨rfl, hb6⟩
            have H8_ := H7.out.via hb6
            try simp only [List.cons_append, List.nil_append, List.set_cons_zero, List.set_cons_succ, List.map_cons, List.map_nil, List.getD_cons_zero, List.getD_cons_succ, World.size_alloc] at H8_
            have H8 := Lib.hid H8_
            clear H8_
            clear hb6 CE H7 x0 x1 x2 x3
            have hlss := shapes_lss (k := k) (i := 3) (so := so) (sc := sc) HA.out H8.out hcn (by rw [show As.take k = As from List.take_of_length_le (by have := HLN.out.2; omega)]; rfl)
            rw [show As.take k = As from List.take_of_length_le (by have := HLN.out.2; omega)] at hlss
            have cv := cover_any hlss
            have hP0 : 0 < k := by have := (joiner_ok H8.out (i := 0) rfl).2.1; rw [HPP.out] at this; omega
            have hcc : cvR (As.map fun A => A.s) = (c, 0) := by
              have h1 := cover_all (fr := fr) (l := l) (by have := HLN.out.1; omega) (by rw [HJ.out.1])
              rw [HJ.out.1, ← HLL.out, List.map_map] at h1
              exact h1
            rw [hcc] at cv
            have CV := Lib.hid cv
            have hmc : mayE c = 0 := (mayE_app (HJ.out.2.1.may (by rw [HJ.out.2.2.1]; omega))).2
            have hpc := pr_nonneg hmc
            obtain ⟨M, hM⟩ : ∃ M : Nat, pr c = M := ⟨(pr c).toNat, by omega⟩
            have hsz : szE c = M := by unfold szE; rw [if_pos hmc, hM]
            have HMC := Lib.hid (And.intro hmc (And.intro hM hsz))
            have hMb : M ≤ 4096 := by omega
            clear hlss cv hcc hmc hpc hM hsz
            go_wp2_with fail
            refine CV.out.mono ?_; rintro e w7 ⟨vo, vn, vc, rfl, hL7, hO7, hB7⟩
            have h9a := H8.out.intsNew hO7 hB7 hL7.big hL7.rng
            have h9b := h9a.pick [1, 2, 6] (by decide)
            have H9_ := h9b.intsNew (E := 3) (zs := []) (World.ownsRow_nil _ _ _ _) (Below.refl _ _) (by omega) (fun i => by simp [List.getD])
            try simp only [List.cons_append, List.nil_append, List.set_cons_zero, List.set_cons_succ, List.map_cons, List.map_nil, List.getD_cons_zero, List.getD_cons_succ, World.size_alloc] at H9_
            have H9 := Lib.hid H9_
            clear H9_
            clear h9a h9b
            have cs1 := size_any (H9.out.ls (i := 2) rfl)
            rw [HMC.out.2.2, HMC.out.1] at cs1
            have CS1 := Lib.hid cs1
            have hvn : vn ≤ 8 := by have := hL7.len; have := (mayE_zero HMC.out.1).2.1; omega
            have hfm : mayE fr = 0 := (joiner_ok (c := c) (G := l) H8.out (i := 0) rfl).1
            have hfn : fn ≤ 8 := by have := HL.out.len; have := (mayE_zero hfm).2.1; omega
            clear hL7 hO7 hB7 cs1 H8 CV hfm
            go_wp2_with fail
            refine CS1.out.mono ?_; rintro e w8 ⟨rfl, hw8⟩
            have hw8' := hw8.symm
            subst hw8'
            have hRS : RS = fr ++ c := by rw [HJ.out.2.2.2.1]; unfold dnS; rw [HJ.out.2.2.1, HPP.out, if_neg (by omega)]
            have hRA : RA = (l.map fun x => layL c x.1 x.2).flatten := by rw [HJ.out.2.2.2.2]; unfold dnA; rw [HJ.out.2.2.1, HPP.out, if_neg (by omega)]
            have hyn : k * M = yn := by
              have h1 := (H9.out.isA (i := 0) rfl).ats.len
              simp only at h1
              rw [← h1, hRA, joined_len (fr := fr), HJ.out.2.2.1, HMC.out.2.1, Int.toNat_natCast]
            have hkm : (k : Int) * M = yn := by rw [← hyn]; push_cast; rfl
            have hynb : yn * 8 ≤ 140737488351232 := (H9.out.isA (i := 0) rfl).ats.big
            have z6 : IntKind.i64.wrap ((k : Int) * M) = yn := by rw [hkm]; exact IntWalk.i64_in _ (by omega)
            have H10_ := H9.out.via (adrew1 _)
            try simp only [List.cons_append, List.nil_append, List.set_cons_zero, List.set_cons_succ, List.map_cons, List.map_nil, List.getD_cons_zero, List.getD_cons_succ, World.size_alloc] at H10_
            have H10 := Lib.hid H10_
            clear H10_
            obtain ⟨i0, hi0, hz0, hz1, hz2⟩ := info_parts (P := Try.prog) (e := 3) (z := .int .i64 0) (size := 1) (bytes := 8) (by kernel_rfl)
            have LF := Lib.hid (HL.out.below H10.out.belowN (Nat.le_refl _))
            have hb1 : (0 + fn) * 8 ≤ 140737488351232 := by omega
            have hb2 : (0 + fn + vn) * 8 ≤ 140737488351232 := by omega
            have x0 := H9.out.cell (i := 1) rfl 0 _ rfl
            have x1 := H9.out.cell (i := 1) rfl 1 _ rfl
            have HRR := Lib.hid (And.intro hRS (And.intro hRA hyn))
            clear CS1 hw8 hRS hRA hyn hkm CS0
            go_wp2_with fail
            go_region_held3 (fun w'' => w''.cell? ⟨b7, 0, none⟩ = some (.slice xa xn xc) ∧ w''.cell? ⟨b7, 1, none⟩ = some (.slice ya yn yc)) (go_keep)
              (first
              | (refine Sp.step_locG H10.out (by rfl) _ _ 22 (by rfl) 3 i0 Try.underlying22 hi0 hz0 hz1 hz2 (i := 3) rfl (by rfl) (by rfl) LF.out hb1 ?_; intro b1 d1 w9 h9; have H11 := Lib.hid h9; clear h9; clear x0 x1; have x0 := H11.out.cell (i := 1) rfl 0 _ rfl; have x1 := H11.out.cell (i := 1) rfl 1 _ rfl)
              | (refine Sp.step_locG H11.out (by rfl) _ _ 22 (by rfl) 3 i0 Try.underlying22 hi0 hz0 hz1 hz2 (i := 3) rfl (by rfl) (by rfl) (H11.out.ls (i := 2) rfl) hb2 ?_; intro b2 d2 w10 h10; have H12 := Lib.hid h10; clear h10; clear x0 x1; have x0 := H12.out.cell (i := 1) rfl 0 _ rfl; have x1 := H12.out.cell (i := 1) rfl 1 _ rfl; have E1_ := (eqints_any (H12.out.isA (i := 0) rfl).shp (H12.out.ls (i := 3) rfl)); simp only [Nat.zero_add, List.nil_append, HRR.out.1, decide_true] at E1_; have E1 := Lib.hid E1_; clear E1_)
              | (go_at_call 12; (with_reducible refine Calls.mono E1.out ?_); rintro e w11 ⟨rfl, n11, hq⟩; have H13 := Lib.hid (H12.out.via (show Below w10.heap.size w10 w11 from by rw [hq]; exact adrew _ _)); clear hq; clear x0 x1; have x0 := H13.out.cell (i := 1) rfl 0 _ rfl; have x1 := H13.out.cell (i := 1) rfl 1 _ rfl))
            have h14 : Sp Non w w11 [Pt.arr ⟨xa, xn, xc, ya, yn, yc, RS, RA⟩, Pt.row ⟨25, 2, some ⟨b7, 0, none⟩, 1, 1, [.slice xa xn xc, .slice ya yn yc]⟩, Pt.ints 3 vo vn vc c] := H13.out.pick [0, 1, 2] (by decide)
            have H14 := Lib.hid h14
            clear h14 H9 H10 H11 H12 H13 E1 LF x0 x1 hi0 hz0 hz1 hz2 hb1 hb2
            go_wp2_with fail
            go_loopw [22] (fun v wr => ∃ i : Nat, i ≤ k ∧ v = .int .i64 i ∧ Hid (Sp Non w wr [Pt.arr ⟨xa, xn, xc, ya, yn, yc, RS, RA⟩, Pt.row ⟨25, 2, some ⟨b7, 0, none⟩, 1, 1, [.slice xa xn xc, .slice ya yn yc]⟩, Pt.ints 3 vo vn vc c])) (fun v _ => k - (RowKit.intOf v).toNat)
            case atStart => exact ⟨0, by omega, rfl, H14⟩
            case round =>
              clear H14
              obtain ⟨i, hi, rfl, HO⟩ := hrel
              by_cases hlt : i < k
              · have hlt' : (i : Int) < k := by omega
                obtain ⟨⟨ea, en, ec, ba, bn, bc, s, a⟩, hAi⟩ : ∃ B, As[i]? = some B := ⟨As[i]'(by have := HLN.out.2; omega), List.getElem?_eq_getElem _⟩
                obtain ⟨gb, off, hco, hgl, hcs⟩ := HA.out.mem (by omega)
                subst hco
                obtain ⟨e0, e1⟩ := hcs i _ hAi
                simp only at e0 e1
                have hIA := HA.out.all i _ hAi
                have hgl' : l[i]? = some (s, a) := by rw [← HLL.out, List.getElem?_map, hAi]; rfl
                have hgd : l.getD i ([], []) = (s, a) := by simp [List.getD, hgl']
                obtain ⟨hma, hcv⟩ := HJ.out.2.1.all (s, a) (List.mem_of_getElem? hgl')
                obtain ⟨p, HP⟩ : ∃ p, Hid (i * M = p) := ⟨_, rfl⟩
                have hpi : (i : Int) * M = p := by rw [← HP.out]; push_cast; rfl
                have hpl : p + M ≤ yn := by
                  have h1 := Nat.mul_le_mul_right M (show i + 1 ≤ k by omega)
                  rw [Nat.succ_mul, HP.out, HRR.out.2.2] at h1
                  exact h1
                have z7 : IntKind.i64.wrap ((i : Int) * M) = p := by rw [hpi]; exact IntWalk.i64_in _ (by omega)
                have hpt : (pr c).toNat = M := by rw [HMC.out.2.1, Int.toNat_natCast]
                have H15_ := HO.out.via (adrew1 _)
                try simp only [List.cons_append, List.nil_append, List.set_cons_zero, List.set_cons_succ, List.map_cons, List.map_nil, List.getD_cons_zero, List.getD_cons_succ, World.size_alloc] at H15_
                have H15 := Lib.hid H15_
                clear H15_
                have cst := stands_any (H15.out.isA (i := 0) rfl) (P := p) (H15.out.ls (i := 2) rfl) (hIA.below H15.out.belowN (Nat.le_refl _)) HMC.out.1 hma hcv (fun q hq => by
                  simp only
                  rw [HRR.out.2.1, ← HP.out, joined_at hpt.symm l i q (by rw [HJ.out.2.2.1]; omega) (by omega), hgd]) (by rw [hpt]; exact hpl)
                simp only [Ar.v] at cst
                have CST := Lib.hid cst
                have f0 := (HO.out.belowN.cell (p := ⟨gb, off + i * 2, none⟩) hgl).trans e0
                have f1 : wr.cell? ⟨gb, off + i * 2 + 1, none⟩ = some (.slice ba bn bc) := (HO.out.belowN.cell (p := ⟨gb, off + (i * 2 + 1), none⟩) hgl).trans e1
                have HEE := Lib.hid (And.intro hgl (And.intro e0 e1))
                have x0 := HO.out.cell (i := 1) rfl 0 _ rfl
                have x1 := HO.out.cell (i := 1) rfl 1 _ rfl
                clear cst hIA hcs e0 e1 hgl hAi hgl' hgd hma hcv hpi hpl hpt
                go_wp2_with fail
                go_region_held3 (fun w'' => w''.cell? ⟨b7, 0, none⟩ = some (.slice xa xn xc) ∧ w''.cell? ⟨b7, 1, none⟩ = some (.slice ya yn yc) ∧ w''.cell? ⟨gb, off + i * 2, none⟩ = some (.slice ea en ec) ∧ w''.cell? ⟨gb, off + i * 2 + 1, none⟩ = some (.slice ba bn bc)) (go_keep)
                  (first
                  | (go_at_call 23; (with_reducible refine Calls.mono CST.out ?_); rintro e w12 ⟨rfl, hb12⟩; have H16 := Lib.hid (H15.out.via hb12); clear hb12 x0 x1 f0 f1; have x0 := H16.out.cell (i := 1) rfl 0 _ rfl; have x1 := H16.out.cell (i := 1) rfl 1 _ rfl; have f0 := (H16.out.belowN.cell (p := ⟨gb, off + i * 2, none⟩) HEE.out.1).trans HEE.out.2.1; have f1 := (H16.out.belowN.cell (p := ⟨gb, off + (i * 2 + 1), none⟩) HEE.out.1).trans HEE.out.2.2; rw [← Nat.add_assoc] at f1))
                clear CST H15 f0 f1 x0 x1
                go_wp2
                go_roundw
                case rel => exact ⟨i + 1, by omega, by go_num, H16⟩
                case measure => simp [RowKit.intOf]; omega
              · have hge : ¬ ((i : Int) < k) := by omega
                have HB := Lib.hid HO.out.belowN
                go_wp2
                go_ret
                exact RetB.mk rfl HB.out
          · have h0 : RE = 11 := by have := HR.out; rwa [if_neg hkP] at this
            subst h0
            have q1 : ((k : Int) == P) = false := by simp; omega
            go_wp2_with fail
            refine CE.out.mono ?_; rintro e w6 ⟨rfl, hb6⟩
            have HF := Lib.hid (RetB.mk (w := w) (v := .bool true) (v' := .bool true) rfl (H7.out.via hb6).belowN)
            go_wp2
            go_ret
            exact HF.out
    · have eE' : RE = bgE fr := by rw [eE, if_neg hb]
      have eA' : RA = [] := by rw [eA, if_neg hb]
      have eS' : RS = [] := by rw [eS, if_neg hb]
      subst eA' eS'
      have CB := Lib.hid (CB0.out.1 hb)
      obtain ⟨m, hm⟩ : ∃ m, m = bgE fr := ⟨_, rfl⟩
      rw [← hm] at CB hb eE'
      subst eE'
      have q0 : (RE != 0) = true := by simpa using hb
      clear CB0 eE eS eA hm
      go_wp2_with fail
      refine CB.out.mono ?_; rintro e w2 ⟨rfl, hw2⟩
      have hw2' := hw2.symm
      subst hw2'
      have CJ := Lib.hid (CJ0.out _ H2.out.belowN)
      clear CJ0 CB hw2
      go_wp2_with fail
      refine CJ.out.mono ?_; rintro e w3 ⟨⟨xa, xn, xc, ya, yn, yc, xs, ys⟩, rfl, hI, hxs, hys, hO, hb3⟩
      simp only at hxs hys
      subst hxs hys
      have hxn : xn = 0 := by have := hI.shp.len; simpa using this.symm
      have hyn : yn = 0 := by have := hI.ats.len; simpa using this.symm
      subst hxn hyn
      simp only [Ar.v]
      have H4_ := (H2.out.arrNew hI hO hb3).alloc 25 2 1 #[.slice xa 0 xc, .slice ya 0 yc] rfl (by decide)
      try simp only [List.cons_append, List.nil_append, List.set_cons_zero, List.set_cons_succ, List.map_cons, List.map_nil, List.getD_cons_zero, List.getD_cons_succ, World.size_alloc] at H4_
      have H4 := Lib.hid H4_
      clear H4_
      have x0 := H4.out.cell (i := 1) rfl 0 _ rfl
      have x1 := H4.out.cell (i := 1) rfl 1 _ rfl
      have HF := Lib.hid (RetB.mk (w := w) (v := .bool true) (v' := .bool true) rfl H4.out.belowN)
      clear hI hO hb3 CJ
      go_wp2
      go_ret
      exact HF.out
end Go.Proofs.Ytfmabpdkjhlihaa

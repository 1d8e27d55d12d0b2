/- What digit.copies tells; contract of its inner function. Contract of digit.copies. -/
import Derived.Test.YtoippfoeghjdoaaDigBinary
import Derived.Test.YtoippfoeghjdoaaSepSeq
import Derived.Test.YtoippfoeghjdoaaCellPlain2
import Derived.Test.YtoippfoeghjdoaaConcat
import Derived.Deep.RegionLaw
import Derived.Deep.CutRange
import Derived.Deep.CutBlock
import Derived.WalkMore
namespace Go.Proofs.Ytoippfoeghjdoaa
open Go.RowKit Go.Lib
set_option linter.unusedVariables false
set_option linter.unusedSimpArgs false
attribute [local go_sem] alloc_drewN setCell_drewN
/-- The first k numbers together; how many items are copied; all together, or 4097; the copies of an item; all of them. -/
def cpU (s a : List Int) : Nat → Int
  | 0 => 0
  | k + 1 => cpU s a k + pkV s a k
def cpN (a t : List Int) : Nat := if t.length = 0 then a.length else (t.getD 0 0).toNat
def cpT (s a t : List Int) : Int := if cpU s a (cpN a t) ≤ 4096 then cpU s a (cpN a t) else 4097
def cpK (t b : List Int) (i : Nat) : List Int := ckL (pr t.tail).toNat (if t.length = 0 then 0 else i) b
def cpR (s a t b : List Int) : Nat → List Int
  | 0 => []
  | i + 1 => cpR s a t b i ++ (List.replicate (pkV s a i).toNat (cpK t b i)).flatten
def cpW (s a t : List Int) : Prop := s.length = 1 ∧ 0 < t.length ∧ (a.length : Int) ≠ t.getD 0 0
instance (s a t : List Int) : Decidable (cpW s a t) := inferInstanceAs (Decidable (_ ∧ _))
def cpE (s a t : List Int) : Int := if cpW s a t then 11 else if a.any (fun k => decide (k < 0)) then 10 else if mayE (cpT s a t :: t.tail) = 0 then 0 else 17
def cpS (s a t : List Int) : List Int := if cpE s a t = 0 then cpT s a t :: t.tail else []
def cpA (s a t b : List Int) : List Int := if cpE s a t = 0 then cpR s a t b (cpN a t) else []
theorem pk_nonneg {s a : List Int} (h : a.any (fun k => decide (k < 0)) = false) (i : Nat) : 0 ≤ pkV s a i := by
  have h1 : ∀ j, 0 ≤ a.getD j 0 := fun j => by
    rcases Int.lt_or_le (a.getD j 0) 0 with h3 | h3
    · by_cases hj : j < a.length
      · exact absurd (any_neg_iff.2 ⟨j, hj, h3⟩) (by rw [h]; simp)
      · simp [List.getD, List.getElem?_eq_none (show a.length ≤ j by omega)]
    · exact h3
  unfold pkV; split <;> exact h1 _
theorem cpU_mono {s a : List Int} (h : a.any (fun k => decide (k < 0)) = false) (i d : Nat) : 0 ≤ cpU s a i ∧ cpU s a i ≤ cpU s a (i + d) := by
  have h0 : ∀ i, 0 ≤ cpU s a i := fun i => by
    induction i with
    | zero => simp [cpU]
    | succ i ih => have := pk_nonneg (s := s) h i; simp only [cpU]; omega
  refine ⟨h0 i, ?_⟩
  induction d with
  | zero => simp
  | succ d ih => have := pk_nonneg (s := s) h (i + d); rw [← Nat.add_assoc]; simp only [cpU]; omega
theorem cpR_len {s a t b : List Int} (h : a.any (fun k => decide (k < 0)) = false) {e : Nat} (he : ∀ i, i < cpN a t → (cpK t b i).length = e) : ∀ i, i ≤ cpN a t → (cpR s a t b i).length = (cpU s a i).toNat * e
  | 0, _ => by simp [cpR, cpU]
  | i + 1, hi => by
    have h1 := cpR_len (s := s) h he i (by omega)
    have h2 := (cpU_mono (s := s) h i 0).1
    have h3 := pk_nonneg (s := s) h i
    have h4 : ∀ n, ((List.replicate n (cpK t b i)).flatten).length = n * e := fun n => by
      induction n with
      | zero => simp
      | succ n ih => rw [List.replicate_succ, List.flatten_cons, List.length_append, ih, he i (by omega), Nat.succ_mul]; omega
    rw [cpR, List.length_append, h1, h4, cpU, Int.toNat_add h2 h3, Nat.add_mul]
theorem rep_len {e n : Nat} {l : List Int} (h : l.length = e) : ((List.replicate n l).flatten).length = n * e := by
  induction n with
  | zero => simp
  | succ n ih => rw [List.replicate_succ, List.flatten_cons, List.length_append, ih, h, Nat.succ_mul]; omega
set_option maxHeartbeats 800000 in
theorem how_any {w : World} {b2 : Nat} {sa aa : Option Addr} {sn sc an ac : Nat} {s a : List Int} (c0 : w.cell? ⟨b2, 0, none⟩ = some (.slice sa sn sc)) (c1 : w.cell? ⟨b2, 1, none⟩ = some (.slice aa an ac)) (hS : Ls w sa sn sc s) (hA : Ls w aa an ac a) (i : Nat) (hi : if sn = 0 then 0 < an else i < an) :
    Calls Try.prog 77 #[.int .i64 i, .pointer (some ⟨b2, 0, none⟩)] w (RetS w (.int .i64 (pkV s a i))) := by
  have hsl : s.length = sn := hS.len
  by_cases h0 : sn = 0
  · rw [if_pos h0] at hi
    obtain ⟨b, o, rfl, hc⟩ := hA.at hi
    have d0 := hc 0 hi
    rw [Nat.add_zero] at d0
    have hi' : (0 : Int) < an := by omega
    have e : pkV s a i = a.getD 0 0 := by unfold pkV; rw [if_pos (by omega)]
    rw [e]
    subst h0
    obtain ⟨x, HX⟩ : ∃ z, Hid (a.getD 0 0 = z) := ⟨_, rfl⟩
    rw [HX.out] at d0 ⊢
    clear hA hS hsl e hc
    go_enter Try.func77, Try.ntmps77
    go_wp2
    go_ret
    exact RetS.mk rfl
  · rw [if_neg h0] at hi
    obtain ⟨b, o, rfl, hc⟩ := hA.at (by omega)
    have d0 := hc i hi
    have hi' : (i : Int) < an := by omega
    have q0 : ((sn : Int) == 0) = false := by simp; omega
    have q1 : (sn == 0) = false := by simpa using h0
    have e : pkV s a i = a.getD i 0 := by unfold pkV; rw [if_neg (by omega)]
    rw [e]
    obtain ⟨x, HX⟩ : ∃ z, Hid (a.getD i 0 = z) := ⟨_, rfl⟩
    rw [HX.out] at d0 ⊢
    clear hA hS hsl e hc
    go_enter Try.func77, Try.ntmps77
    go_wp2
    go_ret
    exact RetS.mk rfl
/-- A slice cut out, as the program reckons it. -/
theorem ls_cutI {w : World} {ao : Option Addr} {n c : Nat} {zs : List Int} (h : Ls w ao n c zs) (l k : Nat) (hk : l + k ≤ n) :
    Ls w (if c = l then ao else ao.map fun x => x.add l) k (c - l) ((zs.drop l).take k) := by
  split
  · rename_i e
    have h1 := h.cap
    obtain rfl : k = 0 := by omega
    rw [List.take_zero]
    exact ⟨rfl, Nat.zero_le _, by omega, by have := h.top; omega, fun h => absurd h (by omega), fun i => by simp [List.getD]⟩
  · exact h.cutA l k hk
end Go.Proofs.Ytoippfoeghjdoaa
namespace Go.Proofs.Ytoippfoeghjdoaa
open Go.RowKit Go.Lib
set_option linter.unusedVariables false
set_option linter.unusedSimpArgs false
attribute [local go_sem] alloc_drewN setCell_drewN
def cpB (b2 : Nat) (sa : Option Addr) (sn sc : Nat) (aa : Option Addr) (an ac : Nat) (ta : Option Addr) (tn tc : Nat) (ba : Option Addr) (bn bc : Nat) : List Pt := [Pt.row ⟨38, 2, some ⟨b2, 0, none⟩, 1, 1, [.slice sa sn sc, .slice aa an ac]⟩, Pt.row ⟨38, 2, some ⟨b2 + 1, 0, none⟩, 1, 1, [.slice ta tn tc, .slice ba bn bc]⟩, Pt.row ⟨38, 2, some ⟨b2 + 1 + 1, 0, none⟩, 1, 1, [.slice none 0 0, .slice none 0 0]⟩]
set_option maxRecDepth 100000 in
set_option maxHeartbeats 6400000 in
theorem copies_0 {w : World} {X Y : Ar} (hX : X.Is w) (hY : Y.Is w) (h1 : X.sn = 0) (hmy : amE Y.s Y.a = 0) (hxn : X.an ≤ 4096)
    (h2 : Y.sn = 0) (h3 : X.an = 1)
    : Calls Try.prog 50 #[X.v, Y.v] w (MadeE w (cpS X.s X.a Y.s) (cpA X.s X.a Y.s Y.a) (cpE X.s X.a Y.s)) := by
  obtain ⟨sa, sn, sc, aa, an, ac, s, a⟩ := X
  obtain ⟨ta, tn, tc, ba, bn, bc, t, b⟩ := Y
  simp only [Ar.v]
  simp only at h1 h2 hxn hmy
  simp only at h3
  have hsl : s.length = sn := hX.shp.len
  have htl : t.length = tn := hY.shp.len
  have hal : a.length = an := hX.ats.len
  have hbl : b.length = bn := hY.ats.len
  obtain ⟨hmt, hpt⟩ := amE_zero hmy
  have ht8 := (mayE_zero hmt).2.1
  subst h2
  have hb1 : bn = 1 := by
    have e : t = [] := List.eq_nil_of_length_eq_zero htl
    subst e
    have : pr [] = (1 : Int) := rfl
    omega
  subst hb1
  subst h1
  subst h3
  have hit : itE t b = (1 : Int) := by
    unfold itE
    rw [if_pos hmy]
    rw [if_pos htl]
  have hN : cpN a t = 1 := by
    unfold cpN
    rw [if_pos htl, hal]
  have HT1 : Hid (pr t.tail = 1) := by
    show _ = _
    rw [List.eq_nil_of_length_eq_zero htl]; rfl
  have hnw : ¬ cpW s a t := by
    rintro ⟨q1, q2, q3⟩
    omega
  obtain ⟨E, HE⟩ : ∃ z, Hid (cpE s a t = z) := ⟨_, rfl⟩
  obtain ⟨S, HS⟩ : ∃ z, Hid (cpS s a t = z) := ⟨_, rfl⟩
  obtain ⟨A, HA⟩ : ∃ z, Hid (cpA s a t b = z) := ⟨_, rfl⟩
  rw [HE.out, HS.out, HA.out]
  have eE : E = if a.any (fun k => decide (k < 0)) then 10 else if mayE (cpT s a t :: t.tail) = 0 then 0 else 17 := by rw [← HE.out, cpE, if_neg hnw]
  have eS : S = if E = 0 then cpT s a t :: t.tail else [] := by rw [← HS.out, cpS, HE.out]
  have eA : A = if E = 0 then cpR s a t b (cpN a t) else [] := by rw [← HA.out, cpA, HE.out]
  rw [hN] at eA
  have HEE := Lib.hid (And.intro eE (And.intro eS eA))
  obtain ⟨W, HW⟩ : ∃ z, Hid (((w.alloc (.cells #[.slice sa 0 sc, .slice aa 1 ac] 38)).alloc (.cells #[.slice ta 0 tc, .slice ba 1 bc] 38)).alloc (.cells #[.slice none 0 0, .slice none 0 0] 38) = z) := ⟨_, rfl⟩
  have H0 := (((Sp.start Non w).alloc 38 2 1 #[.slice sa 0 sc, .slice aa 1 ac] rfl (by decide)).alloc 38 2 1 #[.slice ta 0 tc, .slice ba 1 bc] rfl (by decide)).alloc 38 2 1 #[.slice none 0 0, .slice none 0 0] rfl (by decide)
  rw [HW.out] at H0
  obtain ⟨b2, HB2⟩ : ∃ z, Hid (w.heap.size = z) := ⟨_, rfl⟩
  have HQ_ := H0
  try simp only [List.cons_append, List.nil_append, List.set_cons_zero, List.set_cons_succ, List.map_cons, List.map_nil, List.getD_cons_zero, List.getD_cons_succ, World.size_alloc] at HQ_
  have HQ := Lib.hid HQ_
  clear HQ_
  rw [HB2.out] at HQ
  have H1 : Hid (Sp Non w W (cpB b2 sa 0 sc aa 1 ac ta 0 tc ba 1 bc)) := HQ
  clear HQ
  have HX := Lib.hid hX
  have HY := Lib.hid hY
  have HN := Lib.hid (And.intro hN (And.intro hal (And.intro hbl (And.intro hsl htl))))
  have HMT := Lib.hid (And.intro hmt hpt)
  have CC0 := containsneg_c (hX.ats.below H1.out.belowN (Nat.le_refl _))
  have CI0 := fun q => items_any (hY.below (H1.out.via (adrew W q)).belowN (Nat.le_refl _))
  simp only [Ar.v] at CC0 CI0
  rw [hit] at CI0
  have CI := Lib.hid CI0
  have x0 := H1.out.cell (i := 0) rfl 0 _ rfl
  have x1 := H1.out.cell (i := 0) rfl 1 _ rfl
  have y0 := H1.out.cell (i := 1) rfl 0 _ rfl
  have y1 := H1.out.cell (i := 1) rfl 1 _ rfl
  have CC1 := Lib.hid (fun q => containsneg_c ((HX.out.ats.below (H1.out.via (adrew W q)).belowN (Nat.le_refl _))))
  simp only at CC1
  clear hX hY H0 hsl htl hal hbl hmt hpt hmy hit hN hnw eE eS eA HE HS HA CC0 CI0
  cases hn : a.any (fun k => decide (k < 0))
  · rw [hn] at CC1
    have HNN := Lib.hid hn
    clear hn
    go_enter Try.func50, Try.ntmps50
    go_wp2_with fail
    rw [HW.out, HB2.out]
    go_step3
    go_wp2_with fail
    go_quiet (fail)
    go_wp2_with fail
    refine (CC1.out _).mono ?_; rintro e w' ⟨rfl, hw'⟩
    have hw'' := hw'.symm
    subst hw''
    clear hw'
    go_wp2_with fail
    refine (CI.out _).mono ?_; rintro e w5 ⟨rfl, hb5⟩
    have H3 : Hid (Sp Non w w5 (cpB b2 sa 0 sc aa 1 ac ta 0 tc ba 1 bc)) := (H1.out.via (adrew W _)).via hb5
    clear hb5 CC1 CI H1 x0 x1 y0 y1
    have x0 := H3.out.cell (i := 0) rfl 0 _ rfl
    have x1 := H3.out.cell (i := 0) rfl 1 _ rfl
    have y0 := H3.out.cell (i := 1) rfl 0 _ rfl
    have y1 := H3.out.cell (i := 1) rfl 1 _ rfl
    go_upto_if 57 with fail
    go_cut [8] from 57 to 60 (fun v8 wx => ∃ (ro : Option Addr) (rc : Nat), v8 = .slice ro 0 rc ∧ wx = w5 ∧ Hid (Ls w5 ro 0 rc t.tail))
    case first =>
      have HT : Hid (Ls w5 none 0 0 t.tail) := by
        have e : t = [] := List.eq_nil_of_length_eq_zero HN.out.2.2.2.2
        show Ls _ _ _ _ _
        rw [e]
        exact Ls.zero _ _ (Nat.zero_le _)
      go_wp2_with fail
      go_meet
      exact ⟨none, 0, rfl, rfl, HT⟩
    case rest =>
      obtain ⟨ro, rc, rfl, rfl, HRO⟩ := hcut
      have hmr : mayE t.tail = 0 := by
        have h := mayE_app (s := t.take 1) (t := t.drop 1) (by rw [List.take_append_drop]; exact HMT.out.1)
        rw [← List.drop_one]; exact h.2
      have hrl : t.tail.length = 0 := by rw [List.length_tail, HN.out.2.2.2.2]
      have hpr := pr_nonneg hmr
      have HMR := Lib.hid hmr
      have HRL := Lib.hid hrl
      have hmf : ∀ (fn : Fn) (first cap : Array Value) (w : World), (Instr.makeFunc fn first cap).run Try.prog w = .ok (.func fn first cap) w := fun _ _ _ _ => rfl
      obtain ⟨e, HEP⟩ : ∃ e : Nat, Hid (pr t.tail = e) := ⟨(pr t.tail).toNat, (Int.toNat_of_nonneg hpr.1).symm⟩
      have heb : e ≤ 4096 := by have := HEP.out; omega
      clear hmr hrl hpr y0 y1
      go_wp2_with fail
      go_loopw [9, 63] (fun v9 v63 wr => ∃ (j : Nat) (p : Int), j ≤ 0 ∧ v63 = .int .i64 j ∧ v9 = .int .i64 p ∧ 0 ≤ p ∧ p ≤ 4096 ∧ wr = wc ∧ Hid (p = pr (t.tail.take j))) (fun _ v63 _ => 0 - (RowKit.intOf v63).toNat)
      case atStart => exact ⟨0, 1, by omega, rfl, rfl, by omega, by omega, rfl, rfl⟩
      case round =>
        obtain ⟨j, p, hj, rfl, rfl, hp0, hp1, rfl, HP⟩ := hrel
        by_cases hlt : j < 0
        · have hlt' : (j : Int) < 0 := by omega
          obtain ⟨g1, o1, e1, hc1⟩ := HRO.out.at (by omega)
          subst e1
          have d1 := hc1 j hlt
          have hst := pr_snoc (s := t.tail) (k := j) (by rw [HRL.out]; exact hlt)
          have hb1 := pr_le t.tail (mayE_zero HMR.out).1 (j + 1)
          have hb2 := pm_all t.tail (j + 1)
          have hb3 := (mayE_zero HMR.out).2.2
          rw [← HP.out] at hst
          rw [hst] at hb1
          obtain ⟨x, HX2⟩ : ∃ z, Hid (t.tail.getD j 0 = z) := ⟨_, rfl⟩
          rw [HX2.out] at d1 hst hb1
          obtain ⟨q, HQ⟩ : ∃ z, Hid (p * x = z) := ⟨_, rfl⟩
          rw [HQ.out] at hst hb1
          have hqb : 0 ≤ q ∧ q ≤ 4096 := by omega
          have z1 : IntKind.i64.wrap (p * x) = q := by rw [HQ.out]; exact IntWalk.i64_in _ (by omega)
          have HP2 := Lib.hid hst.symm
          clear hc1 hst hb1 hb2 hb3
          go_wp2
          go_roundw
          case rel => exact ⟨j + 1, q, by omega, by go_num, rfl, by omega, by omega, trivial, HP2⟩
          case measure => simp [RowKit.intOf] <;> omega
        · have hge : ¬ ((j : Int) < 0) := by omega
          obtain rfl : j = 0 := by omega
          obtain rfl : p = (e : Int) := by
            have h := HP.out
            rw [List.take_of_length_le (by rw [HRL.out]; exact Nat.le_refl _)] at h
            exact h.trans HEP.out
          have HW0 := Lib.hid (fun k (hk : k < 1) => how_any (s := s) (a := a) x0 x1 (HX.out.below H3.out.belowN (Nat.le_refl _)).shp (HX.out.below H3.out.belowN (Nat.le_refl _)).ats k (by first | (simp; done) | (simp; omega)))
          obtain ⟨T, HTT⟩ : ∃ z, Hid (cpT s a t = z) := ⟨_, rfl⟩
          have hTT : T = if cpU s a 1 ≤ 4096 then cpU s a 1 else 4097 := by rw [← HTT.out, cpT, HN.out.1]
          have HT2 := Lib.hid hTT
          clear hTT HP
          go_wp2_with fail
          go_step3
          go_upto_block 2 with fail
          go_cut [12, 14] from 73 to 87 (fun v12 v14 wx => v12 = .int .i64 T ∧ wx = wr)
          case first =>
            go_wp2_with fail
            go_loopw [12, 73] (fun v12 v73 wx => ∃ (k u : Nat), k ≤ 1 ∧ v73 = .int .i64 k ∧ v12 = .int .i64 u ∧ u ≤ 4096 ∧ wx = wr ∧ Hid (cpU s a k = u)) (fun _ v73 _ => 1 - (RowKit.intOf v73).toNat)
            case atStart => exact ⟨0, 0, by omega, rfl, rfl, by omega, rfl, rfl⟩
            case round =>
              obtain ⟨k, u, hk, rfl, rfl, hu, rfl, HU⟩ := hrel
              by_cases hlt2 : k < 1
              · have hlt' : (k : Int) < 1 := by omega
                have HW1 := Lib.hid (HW0.out k hlt2)
                have hpk := pk_nonneg (s := s) HNN.out k
                have hnx : cpU s a (k + 1) = cpU s a k + pkV s a k := rfl
                have hmo := (cpU_mono (s := s) HNN.out (k + 1) (1 - (k + 1))).2
                rw [show k + 1 + (1 - (k + 1)) = 1 by omega] at hmo
                rw [HU.out] at hnx
                obtain ⟨x, HXX⟩ : ∃ x : Nat, Hid (pkV s a k = x) := ⟨(pkV s a k).toNat, (Int.toNat_of_nonneg hpk).symm⟩
                rw [HXX.out] at HW1 hnx
                by_cases hbk : 4096 - u < x
                · have hbk' : (4096 : Int) - u < x := by omega
                  have hT : T = 4097 := by rw [HT2.out, if_neg (by omega)]
                  subst hT
                  clear hnx hmo hpk hbk
                  go_wp2_with fail
                  refine HW1.out.mono ?_; rintro e' w' ⟨rfl, hw'⟩
                  have hw'' := hw'.symm
                  subst hw''
                  clear hw'
                  go_wp2_with fail
                  go_meet
                  exact ⟨rfl, rfl⟩
                · have hbk' : ¬ ((4096 : Int) - u < x) := by omega
                  have HU2 : Hid (cpU s a (k + 1) = ((u + x : Nat) : Int)) := by show _ = _; rw [hnx]; push_cast; rfl
                  have hux : u + x ≤ 4096 := by omega
                  have hux2 : (u : Int) + x ≤ 4096 := by omega
                  clear hnx hmo hpk
                  go_wp2_with fail
                  refine HW1.out.mono ?_; rintro e' w' ⟨rfl, hw'⟩
                  have hw'' := hw'.symm
                  subst hw''
                  clear hw'
                  go_wp2_with fail
                  refine HW1.out.mono ?_; rintro e' w' ⟨rfl, hw'⟩
                  have hw'' := hw'.symm
                  subst hw''
                  clear hw'
                  go_wp2
                  go_roundw
                  case rel => exact ⟨k + 1, u + x, by omega, by go_num, by go_num, hux, trivial, HU2⟩
                  case measure => simp [RowKit.intOf] <;> omega
              · have hge2 : ¬ ((k : Int) < 1) := by omega
                obtain rfl : k = 1 := by omega
                have hT : T = (u : Int) := by rw [HT2.out, HU.out, if_pos (by omega)]
                subst hT
                go_wp2_with fail
                go_meet
                exact ⟨rfl, rfl⟩
          case rest =>
            obtain ⟨rfl, rfl⟩ := hcut
            obtain ⟨U, hU⟩ : ∃ z : World, z = wc := ⟨_, rfl⟩
            subst hU
            have hu0 := (cpU_mono (s := s) HNN.out 1 0).1
            have hTb : 0 ≤ T ∧ T ≤ 4097 := by
              rw [HT2.out]
              split <;> omega
            have h4 := ((H3.out.alloc 3 1 1 #[.int .i64 T] rfl (by decide)).toInts (i := 3) (zs := [T]) rfl (by omega) (rng_one (by omega))).alloc 25 1 2 #[.slice (some ⟨U.heap.size, 0, none⟩) 1 1, .slice ro 0 rc] rfl (by decide)
            have ct := (concat_two (h4.rlt (i := 4) rfl).1 (h4.cell (i := 4) rfl 0 _ rfl) (h4.cell (i := 4) rfl 1 _ rfl) (h4.ls (i := 3) rfl) ((HRO.out.via (abal U _)).via (abal _ _)) (by omega) (by omega))
            simp only [World.size_alloc, List.singleton_append] at ct
            have CT := Lib.hid ct
            simp only [cpB] at h4
            have H4_ := h4
            try simp only [List.cons_append, List.nil_append, List.set_cons_zero, List.set_cons_succ, List.map_cons, List.map_nil, List.getD_cons_zero, List.getD_cons_succ, World.size_alloc] at H4_
            have H4 := Lib.hid H4_
            clear H4_
            clear hu0 h4 ct
            go_wp2_with fail
            refine CT.out.mono ?_; rintro e' w7 ⟨so, sl, sd, rfl, hL7, hO7, hB7⟩
            have H5_ := (H4.out.intsNew hO7 hB7 hL7.big hL7.rng).pick [0, 1, 2, 5] (by decide)
            try simp only [List.cons_append, List.nil_append, List.set_cons_zero, List.set_cons_succ, List.map_cons, List.map_nil, List.getD_cons_zero, List.getD_cons_succ, World.size_alloc] at H5_
            have H5 := Lib.hid H5_
            clear H5_
            have CM := Lib.hid (may_any (H5.out.ls (i := 3) rfl))
            clear hL7 hO7 hB7 H4 CT H3 x0 x1
            by_cases hm : mayE (T :: t.tail) = 0
            · have r1 : E = 0 := by rw [HEE.out.1, HNN.out, HTT.out]; simp [hm]
              have r2 : S = T :: t.tail := by rw [HEE.out.2.1, if_pos r1, HTT.out]
              have r3 : A = cpR s a t b 1 := by rw [HEE.out.2.2, if_pos r1]
              have HR := Lib.hid (And.intro r2 r3)
              rw [hm] at CM
              have hTe : cpU s a 1 ≤ 4096 := by
                rcases Int.lt_or_le 4096 (cpU s a 1) with h | h
                · have h2 : T = 4097 := by rw [HT2.out, if_neg (by omega)]
                  have h3 := (pm_up (T :: t.tail) 0).2.2
                  have h4 := pm_all (T :: t.tail) 1
                  have h5 := (mayE_zero hm).2.2
                  rw [Nat.zero_add] at h3
                  have h6 : (T :: t.tail).getD 0 0 = T := rfl
                  omega
                · exact h
              subst r1
              clear hm r2 r3 HEE
              go_wp2_with fail
              refine CM.out.mono ?_; rintro e' w' ⟨rfl, hw'⟩
              have hw'' := hw'.symm
              subst hw''
              clear hw' CM
              have h6 := (H5.out.alloc 38 2 1 #[.slice so sl sd, .slice none 0 0] rfl (by decide)).intsNew (E := 2) (zs := []) (World.ownsRow_nil _ _ _ _) (Below.refl _ _) (by omega) (fun i => by simp [List.getD])
              obtain ⟨b16, HB16⟩ : ∃ z, Hid (w7.heap.size = z) := ⟨_, rfl⟩
              have H6_ := h6
              try simp only [List.cons_append, List.nil_append, List.set_cons_zero, List.set_cons_succ, List.map_cons, List.map_nil, List.getD_cons_zero, List.getD_cons_succ, World.size_alloc] at H6_
              have H6 := Lib.hid H6_
              clear H6_
              rw [HB16.out] at H6
              clear h6 H5
              go_wp2_with fail
              rw [HB16.out]
              go_loopw [100] (fun v100 wr => ∃ (i : Nat) (ao : Option Addr) (c : Nat), i ≤ 1 ∧ v100 = .int .i64 i ∧ Hid (Sp Non w wr [Pt.row ⟨38, 2, some ⟨b2, 0, none⟩, 1, 1, [.slice sa 0 sc, .slice aa 1 ac]⟩, Pt.row ⟨38, 2, some ⟨b2 + 1, 0, none⟩, 1, 1, [.slice ta 0 tc, .slice ba 1 bc]⟩, Pt.row ⟨38, 2, some ⟨b2 + 1 + 1, 0, none⟩, 1, 1, [.slice none 0 0, .slice none 0 0]⟩, Pt.ints 3 so sl sd (T :: t.tail), Pt.row ⟨38, 2, some ⟨b16, 0, none⟩, 1, 1, [.slice so sl sd, .slice ao ((cpR s a t b i).length) c]⟩, Pt.ints 2 ao ((cpR s a t b i).length) c (cpR s a t b i)])) (fun v100 _ => 1 - (RowKit.intOf v100).toNat)
              case atStart => exact ⟨0, none, 0, by omega, rfl, H6⟩
              case round =>
                clear H6
                obtain ⟨i, ao, c, hi, rfl, HO⟩ := hrel
                by_cases hlt3 : i < 1
                · have hlt' : (i : Int) < 1 := by omega
                  have x0 := HO.out.cell (i := 0) rfl 0 _ rfl
                  have x1 := HO.out.cell (i := 0) rfl 1 _ rfl
                  have hw1 := how_any (s := s) (a := a) x0 x1 (HX.out.below HO.out.belowN (Nat.le_refl _)).shp (HX.out.below HO.out.belowN (Nat.le_refl _)).ats i (by first | (simp; done) | (simp; omega))
                  have hpk := pk_nonneg (s := s) HNN.out i
                  have hck : ∀ q, q < cpN a t → (cpK t b q).length = e := fun q hq => by
                    unfold cpK
                    rw [if_pos HN.out.2.2.2.2, HEP.out, Int.toNat_natCast]
                    have := HT1.out
                    rw [HEP.out] at this
                    refine ckL_len (m := 1) ?_ (by omega)
                    rw [HN.out.2.2.1]; omega
                  have hrl := cpR_len (s := s) (b := b) HNN.out hck i (by rw [HN.out.1]; omega)
                  have hui := (cpU_mono (s := s) HNN.out i (1 - i))
                  rw [show i + (1 - i) = 1 by omega] at hui
                  have hrb : (cpR s a t b i).length ≤ 16777216 := by
                    rw [hrl]
                    have h1 := Nat.mul_le_mul (show (cpU s a i).toNat ≤ 4096 by omega) heb
                    omega
                  have hui2 := (cpU_mono (s := s) HNN.out (i + 1) (1 - (i + 1)))
                  rw [show i + 1 + (1 - (i + 1)) = 1 by omega] at hui2
                  have hcs : cpU s a (i + 1) = cpU s a i + pkV s a i := rfl
                  obtain ⟨x, HXX⟩ : ∃ x : Nat, Hid (pkV s a i = x) := ⟨(pkV s a i).toNat, (Int.toNat_of_nonneg hpk).symm⟩
                  rw [HXX.out] at hw1 hcs
                  have hxb : x ≤ 4096 := by omega
                  have HW1 := Lib.hid hw1
                  have HCK := Lib.hid (hck i (by rw [HN.out.1]; exact hlt3))
                  have HRS : Hid (cpR s a t b (i + 1) = cpR s a t b i ++ (List.replicate x (cpK t b i)).flatten) := by
                    show _ = _
                    rw [cpR, HXX.out, Int.toNat_natCast]
                  have hmn : min (i : Int) 0 = 0 := by omega
                  clear hw1 hpk hck hrl hui hui2 hcs
                  go_wp2_with fail
                  refine HW1.out.mono ?_; rintro e' w' ⟨rfl, hw'⟩
                  have hw'' := hw'.symm
                  subst hw''
                  clear hw' x0 x1
                  go_wp2_with fail
                  obtain ⟨i0, hi0, hza, hzb, hzc⟩ := info_parts (P := Try.prog) (e := 2) (z := .int .i64 0) (size := 1) (bytes := 8) (by kernel_rfl)
                  go_loopw [110] (fun v110 wx => ∃ (m : Nat) (ao' : Option Addr) (c' : Nat), m ≤ x ∧ v110 = .int .i64 m ∧ Hid (Sp Non w wx [Pt.row ⟨38, 2, some ⟨b2, 0, none⟩, 1, 1, [.slice sa 0 sc, .slice aa 1 ac]⟩, Pt.row ⟨38, 2, some ⟨b2 + 1, 0, none⟩, 1, 1, [.slice ta 0 tc, .slice ba 1 bc]⟩, Pt.row ⟨38, 2, some ⟨b2 + 1 + 1, 0, none⟩, 1, 1, [.slice none 0 0, .slice none 0 0]⟩, Pt.ints 3 so sl sd (T :: t.tail), Pt.row ⟨38, 2, some ⟨b16, 0, none⟩, 1, 1, [.slice so sl sd, .slice ao' ((cpR s a t b i).length + m * e) c']⟩, Pt.ints 2 ao' ((cpR s a t b i).length + m * e) c' (cpR s a t b i ++ (List.replicate m (cpK t b i)).flatten)])) (fun v110 _ => x - (RowKit.intOf v110).toNat)
                  case atStart => exact ⟨0, ao, c, by omega, rfl, by simpa using HO⟩
                  case round =>
                    clear HO
                    obtain ⟨m, ao', c', hm4, rfl, HM⟩ := hrel
                    by_cases hlt4 : m < x
                    · have hlt4' : (m : Int) < x := by omega
                      have hme : m * e ≤ 16777216 := by
                        have h1 := Nat.mul_le_mul (show m ≤ 4096 by omega) heb
                        omega
                      have HV := Lib.hid (HM.out.via (adrew1 wr))
                      have y0 := HM.out.cell (i := 1) rfl 1 _ rfl
                      have y1 := HM.out.cell (i := 4) rfl 1 _ rfl
                      have hls := (HY.out.below HV.out.belowN (Nat.le_refl _)).ats
                      simp only at hls
                      have hcap := hls.cap
                      have he1 : e = 1 := by have h1 := HT1.out; rw [HEP.out] at h1; omega
                      have LSX : Hid (Ls wr.drew ba e bc (cpK t b i)) := by
                        have h1 : cpK t b i = b := by
                          unfold cpK
                          rw [if_pos HN.out.2.2.2.2, HEP.out, Int.toNat_natCast, he1]
                          unfold ckL
                          rw [Nat.zero_mul, List.drop_zero, List.take_of_length_le (by rw [HN.out.2.2.1]; exact Nat.le_refl _)]
                        show Ls _ _ _ _ _
                        rw [h1, he1]
                        exact hls
                      have k1 : (e : Int) ≤ bc := by omega
                      have k2 : (0 : Int) < bc := by omega
                      have k3 : ¬ bc = 0 := by omega
                      have z7 : IntKind.i64.wrap (0 : Int) = 0 := IntWalk.i64_in _ (by omega)
                      have z8 : IntKind.i64.wrap (1 : Int) = 1 := IntWalk.i64_in _ (by omega)
                      have z9 : IntKind.i64.wrap (e : Int) = e := IntWalk.i64_in _ (by omega)
                      clear hls he1 hcap
                      have hb1 : (((cpR s a t b i).length + m * e) + e) * 8 ≤ 140737488351232 := by omega
                      go_wp2_with fail
                      go_region_law (first
                        | (refine Sp.step_loc HV.out rfl _ _ 28 (by rfl) 2 i0 Try.underlying28 hi0 hza hzb hzc (i := 5) rfl (by rfl) (by rfl) LSX.out hb1 ?_; intro b9 d9 w9 h9; have q1 := h9.cell (i := 4) rfl 1 _ rfl; have q2 := h9.frozen (i := 4) rfl 1))
                      all_goals
                        have H10 : Hid (Sp Non w (w9.setCell ⟨b16, 1, none⟩ (.slice b9 ((cpR s a t b i).length + m * e + e) d9)) [Pt.row ⟨38, 2, some ⟨b2, 0, none⟩, 1, 1, [.slice sa 0 sc, .slice aa 1 ac]⟩, Pt.row ⟨38, 2, some ⟨b2 + 1, 0, none⟩, 1, 1, [.slice ta 0 tc, .slice ba 1 bc]⟩, Pt.row ⟨38, 2, some ⟨b2 + 1 + 1, 0, none⟩, 1, 1, [.slice none 0 0, .slice none 0 0]⟩, Pt.ints 3 so sl sd (T :: t.tail), Pt.row ⟨38, 2, some ⟨b16, 0, none⟩, 1, 1, [.slice so sl sd, .slice b9 ((cpR s a t b i).length + (m + 1) * e) d9]⟩, Pt.ints 2 b9 ((cpR s a t b i).length + (m + 1) * e) d9 (cpR s a t b i ++ (List.replicate (m + 1) (cpK t b i)).flatten)]) := by
                          show Sp _ _ _ _
                          rw [List.replicate_succ', List.flatten_append, List.flatten_singleton, ← List.append_assoc, show (cpR s a t b i).length + (m + 1) * e = (cpR s a t b i).length + m * e + e by rw [Nat.succ_mul]; omega]
                          exact h9.put (i := 4) rfl 1 (.slice b9 ((cpR s a t b i).length + m * e + e) d9)
                        clear h9 q1 q2
                        go_wp2
                        go_roundw
                        case rel => exact ⟨m + 1, b9, d9, by omega, by go_num, H10⟩
                        case measure => simp [RowKit.intOf] <;> omega
                    · have hge4 : ¬ ((m : Int) < x) := by omega
                      obtain rfl : m = x := by omega
                      have HJ : Hid (Sp Non w wr [Pt.row ⟨38, 2, some ⟨b2, 0, none⟩, 1, 1, [.slice sa 0 sc, .slice aa 1 ac]⟩, Pt.row ⟨38, 2, some ⟨b2 + 1, 0, none⟩, 1, 1, [.slice ta 0 tc, .slice ba 1 bc]⟩, Pt.row ⟨38, 2, some ⟨b2 + 1 + 1, 0, none⟩, 1, 1, [.slice none 0 0, .slice none 0 0]⟩, Pt.ints 3 so sl sd (T :: t.tail), Pt.row ⟨38, 2, some ⟨b16, 0, none⟩, 1, 1, [.slice so sl sd, .slice ao' ((cpR s a t b (i + 1)).length) c']⟩, Pt.ints 2 ao' ((cpR s a t b (i + 1)).length) c' (cpR s a t b (i + 1))]) := by
                        show Sp _ _ _ _
                        rw [HRS.out, List.length_append, rep_len HCK.out]
                        exact HM.out
                      have hlen : (cpR s a t b (i + 1)).length = (cpR s a t b i).length + m * e := by rw [HRS.out, List.length_append, rep_len HCK.out]
                      go_wp2
                      go_roundw
                      case rel => exact ⟨i + 1, ao', c', by omega, by go_num, HJ⟩
                      case measure => simp [RowKit.intOf] <;> omega
                · have hge3 : ¬ ((i : Int) < 1) := by omega
                  obtain rfl : i = 1 := by omega
                  have hsp := HO.out
                  rw [← HR.out.1, ← HR.out.2] at hsp
                  have h7 := hsp.arrOf (i := 3) (j := 5) rfl (by decide) rfl
                  have H7_ := h7
                  try simp only [List.cons_append, List.nil_append, List.set_cons_zero, List.set_cons_succ, List.map_cons, List.map_nil, List.getD_cons_zero, List.getD_cons_succ, World.size_alloc] at H7_
                  have H7 := Lib.hid H7_
                  clear H7_
                  have x2 := H7.out.cell (i := 2) rfl 0 _ rfl
                  have x3 := H7.out.cell (i := 2) rfl 1 _ rfl
                  have y0 := H7.out.cell (i := 4) rfl 0 _ rfl
                  have y1 := H7.out.cell (i := 4) rfl 1 _ rfl
                  have f2 := H7.out.frozen (i := 2) rfl 0
                  have f3 := H7.out.frozen (i := 2) rfl 1
                  have HF : Hid (∀ u v, MadeE w S A 0 (.returned (.tuple #[.agg #[.slice so sl sd, .slice ao A.length c], .int .i64 0])) ((wr.setCell ⟨b2 + 1 + 1, 0, none⟩ u).setCell ⟨b2 + 1 + 1, 1, none⟩ v)) := fun u v => ((H7.out.put (i := 2) rfl 0 u).put (i := 2) rfl 1 v).madeE (i := 5) (B := ⟨so, sl, sd, ao, A.length, c, S, A⟩) rfl 0
                  clear hsp h7 H7
                  go_wp2
                  exact bodyPost_ret (v := .tuple #[.agg #[.slice so sl sd, .slice ao A.length c], .int .i64 0]) (by simp [results, Try.results50, go_sem, *]) rfl (HF.out _ _)
            · have hE0 : E = 17 := by rw [HEE.out.1, HNN.out, HTT.out]; simp [hm]
              have r2 : S = [] := by rw [HEE.out.2.1, hE0]; rfl
              have r3 : A = [] := by rw [HEE.out.2.2, hE0]; rfl
              subst hE0 r2 r3
              obtain ⟨me, he⟩ : ∃ z, z = mayE (T :: t.tail) := ⟨_, rfl⟩
              rw [← he] at CM hm
              have q0 : (me != 0) = true := by simpa using hm
              have x2 := H5.out.cell (i := 2) rfl 0 _ rfl
              have x3 := H5.out.cell (i := 2) rfl 1 _ rfl
              have f2 := H5.out.frozen (i := 2) rfl 0
              have f3 := H5.out.frozen (i := 2) rfl 1
              have HF : Hid (∀ u v, MadeE w [] [] 17 (.returned (.tuple #[.agg #[.slice none 0 0, .slice none 0 0], .int .i64 17])) ((w7.setCell ⟨b2 + 1 + 1, 0, none⟩ u).setCell ⟨b2 + 1 + 1, 1, none⟩ v)) := fun u v => made_nil 17 ((H5.out.put (i := 2) rfl 0 u).put (i := 2) rfl 1 v).belowN
              clear he hm HEE H5
              go_wp2_with fail
              refine CM.out.mono ?_; rintro e' w' ⟨rfl, hw'⟩
              have hw'' := hw'.symm
              subst hw''
              go_wp2
              exact bodyPost_ret (v := .tuple #[.agg #[.slice none 0 0, .slice none 0 0], .int .i64 17]) (by simp [results, Try.results50, go_sem, *]) rfl (HF.out _ _)
  · rw [hn] at CC1
    have r1 : E = 10 := by rw [HEE.out.1, hn]; rfl
    have r2 : S = [] := by rw [HEE.out.2.1, r1]; rfl
    have r3 : A = [] := by rw [HEE.out.2.2, r1]; rfl
    subst r1 r2 r3
    have HF : Hid (∀ q u v, MadeE w [] [] 10 (.returned (.tuple #[.agg #[.slice none 0 0, .slice none 0 0], .int .i64 10])) (((W.drewN q).setCell ⟨b2 + 1 + 1, 0, none⟩ u).setCell ⟨b2 + 1 + 1, 1, none⟩ v)) := fun q u v => made_nil 10 (((H1.out.via (adrew W q)).put (i := 2) rfl 0 u).put (i := 2) rfl 1 v).belowN
    have x2 := H1.out.cell (i := 2) rfl 0 _ rfl
    have x3 := H1.out.cell (i := 2) rfl 1 _ rfl
    have f2 := H1.out.frozen (i := 2) rfl 0
    have f3 := H1.out.frozen (i := 2) rfl 1
    clear hn
    go_enter Try.func50, Try.ntmps50
    go_wp2_with fail
    rw [HW.out, HB2.out]
    go_step3
    go_wp2_with fail
    go_quiet (fail)
    go_wp2_with fail
    refine (CC1.out _).mono ?_; rintro e w' ⟨rfl, hw'⟩
    have hw'' := hw'.symm
    subst hw''
    go_wp2
    exact bodyPost_ret (v := .tuple #[.agg #[.slice none 0 0, .slice none 0 0], .int .i64 10]) (by simp [results, Try.results50, go_sem, *]) rfl (HF.out _ _ _)
set_option maxRecDepth 100000 in
set_option maxHeartbeats 6400000 in
theorem copies_1 {w : World} {X Y : Ar} (hX : X.Is w) (hY : Y.Is w) (h1 : X.sn = 0) (hmy : amE Y.s Y.a = 0) (hxn : X.an ≤ 4096)
    (h2 : 0 < Y.sn) (h3 : X.an = 1)
    : Calls Try.prog 50 #[X.v, Y.v] w (MadeE w (cpS X.s X.a Y.s) (cpA X.s X.a Y.s Y.a) (cpE X.s X.a Y.s)) := by
  obtain ⟨sa, sn, sc, aa, an, ac, s, a⟩ := X
  obtain ⟨ta, tn, tc, ba, bn, bc, t, b⟩ := Y
  simp only [Ar.v]
  simp only at h1 h2 hxn hmy
  simp only at h3
  have hsl : s.length = sn := hX.shp.len
  have htl : t.length = tn := hY.shp.len
  have hal : a.length = an := hX.ats.len
  have hbl : b.length = bn := hY.ats.len
  obtain ⟨hmt, hpt⟩ := amE_zero hmy
  have ht8 := (mayE_zero hmt).2.1
  subst h1
  subst h3
  obtain ⟨mm, hmm⟩ : ∃ m : Nat, t.getD 0 0 = m := ⟨(t.getD 0 0).toNat, (Int.toNat_of_nonneg ((mayE_zero hmt).1 0)).symm⟩
  have hit : itE t b = (mm : Int) := by
    unfold itE
    rw [if_pos hmy]
    rw [if_neg (by omega), hmm]
  have hN : cpN a t = mm := by
    unfold cpN
    rw [if_neg (by omega), hmm, Int.toNat_natCast]
  have hNb : (mm : Int) ≤ 4096 := by
    have q1 := (pm_up t 0).2.2
    have q2 := pm_all t 1
    have q3 := (mayE_zero hmt).2.2
    rw [hmm, Nat.zero_add] at q1
    omega
  have htn8 : tn ≤ 8 := by omega
  have hq0 : ((tn : Int) == 0) = false := by simp; omega
  have hq1 : (tn == 0) = false := by simp; omega
  have hq2 : (0 : Int) < tn := by omega
  have HBN : Hid ((bn : Int) = mm * pr t.tail) := by
    show _ = _
    obtain ⟨x, r, e⟩ := List.exists_cons_of_ne_nil (l := t) (fun h => by rw [h] at htl; simp at htl; omega)
    have hx : t.getD 0 0 = x := by rw [e]; rfl
    rw [← hbl, ← hpt, e, pr_cons, List.tail_cons, ← hmm, hx]
  have hnw : ¬ cpW s a t := by
    rintro ⟨q1, q2, q3⟩
    omega
  obtain ⟨E, HE⟩ : ∃ z, Hid (cpE s a t = z) := ⟨_, rfl⟩
  obtain ⟨S, HS⟩ : ∃ z, Hid (cpS s a t = z) := ⟨_, rfl⟩
  obtain ⟨A, HA⟩ : ∃ z, Hid (cpA s a t b = z) := ⟨_, rfl⟩
  rw [HE.out, HS.out, HA.out]
  have eE : E = if a.any (fun k => decide (k < 0)) then 10 else if mayE (cpT s a t :: t.tail) = 0 then 0 else 17 := by rw [← HE.out, cpE, if_neg hnw]
  have eS : S = if E = 0 then cpT s a t :: t.tail else [] := by rw [← HS.out, cpS, HE.out]
  have eA : A = if E = 0 then cpR s a t b (cpN a t) else [] := by rw [← HA.out, cpA, HE.out]
  rw [hN] at eA
  have HEE := Lib.hid (And.intro eE (And.intro eS eA))
  obtain ⟨W, HW⟩ : ∃ z, Hid (((w.alloc (.cells #[.slice sa 0 sc, .slice aa 1 ac] 38)).alloc (.cells #[.slice ta tn tc, .slice ba bn bc] 38)).alloc (.cells #[.slice none 0 0, .slice none 0 0] 38) = z) := ⟨_, rfl⟩
  have H0 := (((Sp.start Non w).alloc 38 2 1 #[.slice sa 0 sc, .slice aa 1 ac] rfl (by decide)).alloc 38 2 1 #[.slice ta tn tc, .slice ba bn bc] rfl (by decide)).alloc 38 2 1 #[.slice none 0 0, .slice none 0 0] rfl (by decide)
  rw [HW.out] at H0
  obtain ⟨b2, HB2⟩ : ∃ z, Hid (w.heap.size = z) := ⟨_, rfl⟩
  have HQ_ := H0
  try simp only [List.cons_append, List.nil_append, List.set_cons_zero, List.set_cons_succ, List.map_cons, List.map_nil, List.getD_cons_zero, List.getD_cons_succ, World.size_alloc] at HQ_
  have HQ := Lib.hid HQ_
  clear HQ_
  rw [HB2.out] at HQ
  have H1 : Hid (Sp Non w W (cpB b2 sa 0 sc aa 1 ac ta tn tc ba bn bc)) := HQ
  clear HQ
  have HX := Lib.hid hX
  have HY := Lib.hid hY
  have HN := Lib.hid (And.intro hN (And.intro hal (And.intro hbl (And.intro hsl htl))))
  have HMT := Lib.hid (And.intro hmt hpt)
  have CC0 := containsneg_c (hX.ats.below H1.out.belowN (Nat.le_refl _))
  have CI0 := fun q => items_any (hY.below (H1.out.via (adrew W q)).belowN (Nat.le_refl _))
  simp only [Ar.v] at CC0 CI0
  rw [hit] at CI0
  have CI := Lib.hid CI0
  have x0 := H1.out.cell (i := 0) rfl 0 _ rfl
  have x1 := H1.out.cell (i := 0) rfl 1 _ rfl
  have y0 := H1.out.cell (i := 1) rfl 0 _ rfl
  have y1 := H1.out.cell (i := 1) rfl 1 _ rfl
  have CC1 := Lib.hid (fun q => containsneg_c ((HX.out.ats.below (H1.out.via (adrew W q)).belowN (Nat.le_refl _))))
  simp only at CC1
  clear hX hY H0 hsl htl hal hbl hmt hpt hmy hit hN hnw eE eS eA HE HS HA CC0 CI0
  clear hmm
  cases hn : a.any (fun k => decide (k < 0))
  · rw [hn] at CC1
    have HNN := Lib.hid hn
    clear hn
    go_enter Try.func50, Try.ntmps50
    go_wp2_with fail
    rw [HW.out, HB2.out]
    go_step3
    go_wp2_with fail
    go_quiet (fail)
    go_wp2_with fail
    refine (CC1.out _).mono ?_; rintro e w' ⟨rfl, hw'⟩
    have hw'' := hw'.symm
    subst hw''
    clear hw'
    go_wp2_with fail
    refine (CI.out _).mono ?_; rintro e w5 ⟨rfl, hb5⟩
    have H3 : Hid (Sp Non w w5 (cpB b2 sa 0 sc aa 1 ac ta tn tc ba bn bc)) := (H1.out.via (adrew W _)).via hb5
    clear hb5 CC1 CI H1 x0 x1 y0 y1
    have x0 := H3.out.cell (i := 0) rfl 0 _ rfl
    have x1 := H3.out.cell (i := 0) rfl 1 _ rfl
    have y0 := H3.out.cell (i := 1) rfl 0 _ rfl
    have y1 := H3.out.cell (i := 1) rfl 1 _ rfl
    go_upto_if 57 with fail
    go_cut [8] from 57 to 60 (fun v8 wx => ∃ (ro : Option Addr) (rc : Nat), v8 = .slice ro (tn - 1) rc ∧ wx = w5 ∧ Hid (Ls w5 ro (tn - 1) rc t.tail))
    case first =>
      have hsh := (HY.out.below H3.out.belowN (Nat.le_refl _)).shp
      simp only at hsh
      have hcut := ls_cutI hsh 1 (tn - 1) (by omega)
      have htt : (t.drop 1).take (tn - 1) = t.tail := by
        rw [List.drop_one, List.take_of_length_le (by rw [List.length_tail, HN.out.2.2.2.2]; exact Nat.le_refl _)]
      rw [htt] at hcut
      have HCUT := Lib.hid hcut
      have hcap := hsh.cap
      have z1 : (1 : Int) ≤ tn := by omega
      have z2 : (tn : Int) ≤ tc := by omega
      clear hsh hcut htt
      have hc1 : (0 : Int) < tc := by omega
      by_cases htc : tc = 1
      · have HC := HCUT.out
        rw [if_pos htc, show tc - 1 = 0 by omega] at HC
        have HC2 := Lib.hid HC
        clear HC
        go_wp2_with fail
        go_meet
        exact ⟨_, _, rfl, rfl, HC2⟩
      · have HC := HCUT.out
        rw [if_neg htc] at HC
        have HC2 := Lib.hid HC
        have htc2 : ¬ tc - 1 = 0 := by omega
        clear HC
        go_wp2_with fail
        go_meet
        exact ⟨_, _, rfl, rfl, HC2⟩
    case rest =>
      obtain ⟨ro, rc, rfl, rfl, HRO⟩ := hcut
      have hmr : mayE t.tail = 0 := by
        have h := mayE_app (s := t.take 1) (t := t.drop 1) (by rw [List.take_append_drop]; exact HMT.out.1)
        rw [← List.drop_one]; exact h.2
      have hrl : t.tail.length = (tn - 1) := by rw [List.length_tail, HN.out.2.2.2.2]
      have hpr := pr_nonneg hmr
      have HMR := Lib.hid hmr
      have HRL := Lib.hid hrl
      have hmf : ∀ (fn : Fn) (first cap : Array Value) (w : World), (Instr.makeFunc fn first cap).run Try.prog w = .ok (.func fn first cap) w := fun _ _ _ _ => rfl
      obtain ⟨e, HEP⟩ : ∃ e : Nat, Hid (pr t.tail = e) := ⟨(pr t.tail).toNat, (Int.toNat_of_nonneg hpr.1).symm⟩
      have heb : e ≤ 4096 := by have := HEP.out; omega
      clear hmr hrl hpr y0 y1
      go_wp2_with fail
      go_loopw [9, 63] (fun v9 v63 wr => ∃ (j : Nat) (p : Int), j ≤ (tn - 1) ∧ v63 = .int .i64 j ∧ v9 = .int .i64 p ∧ 0 ≤ p ∧ p ≤ 4096 ∧ wr = wc ∧ Hid (p = pr (t.tail.take j))) (fun _ v63 _ => (tn - 1) - (RowKit.intOf v63).toNat)
      case atStart => exact ⟨0, 1, by omega, rfl, rfl, by omega, by omega, rfl, rfl⟩
      case round =>
        obtain ⟨j, p, hj, rfl, rfl, hp0, hp1, rfl, HP⟩ := hrel
        by_cases hlt : j < (tn - 1)
        · have hlt' : (j : Int) < (tn - 1) := by omega
          obtain ⟨g1, o1, e1, hc1⟩ := HRO.out.at (by omega)
          subst e1
          have d1 := hc1 j hlt
          have hst := pr_snoc (s := t.tail) (k := j) (by rw [HRL.out]; exact hlt)
          have hb1 := pr_le t.tail (mayE_zero HMR.out).1 (j + 1)
          have hb2 := pm_all t.tail (j + 1)
          have hb3 := (mayE_zero HMR.out).2.2
          rw [← HP.out] at hst
          rw [hst] at hb1
          obtain ⟨x, HX2⟩ : ∃ z, Hid (t.tail.getD j 0 = z) := ⟨_, rfl⟩
          rw [HX2.out] at d1 hst hb1
          obtain ⟨q, HQ⟩ : ∃ z, Hid (p * x = z) := ⟨_, rfl⟩
          rw [HQ.out] at hst hb1
          have hqb : 0 ≤ q ∧ q ≤ 4096 := by omega
          have z1 : IntKind.i64.wrap (p * x) = q := by rw [HQ.out]; exact IntWalk.i64_in _ (by omega)
          have HP2 := Lib.hid hst.symm
          clear hc1 hst hb1 hb2 hb3
          go_wp2
          go_roundw
          case rel => exact ⟨j + 1, q, by omega, by go_num, rfl, by omega, by omega, trivial, HP2⟩
          case measure => simp [RowKit.intOf] <;> omega
        · have hge : ¬ ((j : Int) < (tn - 1)) := by omega
          obtain rfl : j = (tn - 1) := by omega
          obtain rfl : p = (e : Int) := by
            have h := HP.out
            rw [List.take_of_length_le (by rw [HRL.out]; exact Nat.le_refl _)] at h
            exact h.trans HEP.out
          have HW0 := Lib.hid (fun k (hk : k < mm) => how_any (s := s) (a := a) x0 x1 (HX.out.below H3.out.belowN (Nat.le_refl _)).shp (HX.out.below H3.out.belowN (Nat.le_refl _)).ats k (by first | (simp; done) | (simp; omega)))
          obtain ⟨T, HTT⟩ : ∃ z, Hid (cpT s a t = z) := ⟨_, rfl⟩
          have hTT : T = if cpU s a mm ≤ 4096 then cpU s a mm else 4097 := by rw [← HTT.out, cpT, HN.out.1]
          have HT2 := Lib.hid hTT
          clear hTT HP
          go_wp2_with fail
          go_step3
          go_upto_block 2 with fail
          go_cut [12, 14] from 73 to 87 (fun v12 v14 wx => v12 = .int .i64 T ∧ wx = wr)
          case first =>
            go_wp2_with fail
            go_loopw [12, 73] (fun v12 v73 wx => ∃ (k u : Nat), k ≤ mm ∧ v73 = .int .i64 k ∧ v12 = .int .i64 u ∧ u ≤ 4096 ∧ wx = wr ∧ Hid (cpU s a k = u)) (fun _ v73 _ => mm - (RowKit.intOf v73).toNat)
            case atStart => exact ⟨0, 0, by omega, rfl, rfl, by omega, rfl, rfl⟩
            case round =>
              obtain ⟨k, u, hk, rfl, rfl, hu, rfl, HU⟩ := hrel
              by_cases hlt2 : k < mm
              · have hlt' : (k : Int) < mm := by omega
                have HW1 := Lib.hid (HW0.out k hlt2)
                have hpk := pk_nonneg (s := s) HNN.out k
                have hnx : cpU s a (k + 1) = cpU s a k + pkV s a k := rfl
                have hmo := (cpU_mono (s := s) HNN.out (k + 1) (mm - (k + 1))).2
                rw [show k + 1 + (mm - (k + 1)) = mm by omega] at hmo
                rw [HU.out] at hnx
                obtain ⟨x, HXX⟩ : ∃ x : Nat, Hid (pkV s a k = x) := ⟨(pkV s a k).toNat, (Int.toNat_of_nonneg hpk).symm⟩
                rw [HXX.out] at HW1 hnx
                by_cases hbk : 4096 - u < x
                · have hbk' : (4096 : Int) - u < x := by omega
                  have hT : T = 4097 := by rw [HT2.out, if_neg (by omega)]
                  subst hT
                  clear hnx hmo hpk hbk
                  go_wp2_with fail
                  refine HW1.out.mono ?_; rintro e' w' ⟨rfl, hw'⟩
                  have hw'' := hw'.symm
                  subst hw''
                  clear hw'
                  go_wp2_with fail
                  go_meet
                  exact ⟨rfl, rfl⟩
                · have hbk' : ¬ ((4096 : Int) - u < x) := by omega
                  have HU2 : Hid (cpU s a (k + 1) = ((u + x : Nat) : Int)) := by show _ = _; rw [hnx]; push_cast; rfl
                  have hux : u + x ≤ 4096 := by omega
                  have hux2 : (u : Int) + x ≤ 4096 := by omega
                  clear hnx hmo hpk
                  go_wp2_with fail
                  refine HW1.out.mono ?_; rintro e' w' ⟨rfl, hw'⟩
                  have hw'' := hw'.symm
                  subst hw''
                  clear hw'
                  go_wp2_with fail
                  refine HW1.out.mono ?_; rintro e' w' ⟨rfl, hw'⟩
                  have hw'' := hw'.symm
                  subst hw''
                  clear hw'
                  go_wp2
                  go_roundw
                  case rel => exact ⟨k + 1, u + x, by omega, by go_num, by go_num, hux, trivial, HU2⟩
                  case measure => simp [RowKit.intOf] <;> omega
              · have hge2 : ¬ ((k : Int) < mm) := by omega
                obtain rfl : k = mm := by omega
                have hT : T = (u : Int) := by rw [HT2.out, HU.out, if_pos (by omega)]
                subst hT
                go_wp2_with fail
                go_meet
                exact ⟨rfl, rfl⟩
          case rest =>
            obtain ⟨rfl, rfl⟩ := hcut
            obtain ⟨U, hU⟩ : ∃ z : World, z = wc := ⟨_, rfl⟩
            subst hU
            have hu0 := (cpU_mono (s := s) HNN.out mm 0).1
            have hTb : 0 ≤ T ∧ T ≤ 4097 := by
              rw [HT2.out]
              split <;> omega
            have h4 := ((H3.out.alloc 3 1 1 #[.int .i64 T] rfl (by decide)).toInts (i := 3) (zs := [T]) rfl (by omega) (rng_one (by omega))).alloc 25 1 2 #[.slice (some ⟨U.heap.size, 0, none⟩) 1 1, .slice ro (tn - 1) rc] rfl (by decide)
            have ct := (concat_two (h4.rlt (i := 4) rfl).1 (h4.cell (i := 4) rfl 0 _ rfl) (h4.cell (i := 4) rfl 1 _ rfl) (h4.ls (i := 3) rfl) ((HRO.out.via (abal U _)).via (abal _ _)) (by omega) (by omega))
            simp only [World.size_alloc, List.singleton_append] at ct
            have CT := Lib.hid ct
            simp only [cpB] at h4
            have H4_ := h4
            try simp only [List.cons_append, List.nil_append, List.set_cons_zero, List.set_cons_succ, List.map_cons, List.map_nil, List.getD_cons_zero, List.getD_cons_succ, World.size_alloc] at H4_
            have H4 := Lib.hid H4_
            clear H4_
            clear hu0 h4 ct
            go_wp2_with fail
            refine CT.out.mono ?_; rintro e' w7 ⟨so, sl, sd, rfl, hL7, hO7, hB7⟩
            have H5_ := (H4.out.intsNew hO7 hB7 hL7.big hL7.rng).pick [0, 1, 2, 5] (by decide)
            try simp only [List.cons_append, List.nil_append, List.set_cons_zero, List.set_cons_succ, List.map_cons, List.map_nil, List.getD_cons_zero, List.getD_cons_succ, World.size_alloc] at H5_
            have H5 := Lib.hid H5_
            clear H5_
            have CM := Lib.hid (may_any (H5.out.ls (i := 3) rfl))
            clear hL7 hO7 hB7 H4 CT H3 x0 x1
            by_cases hm : mayE (T :: t.tail) = 0
            · have r1 : E = 0 := by rw [HEE.out.1, HNN.out, HTT.out]; simp [hm]
              have r2 : S = T :: t.tail := by rw [HEE.out.2.1, if_pos r1, HTT.out]
              have r3 : A = cpR s a t b mm := by rw [HEE.out.2.2, if_pos r1]
              have HR := Lib.hid (And.intro r2 r3)
              rw [hm] at CM
              have hTe : cpU s a mm ≤ 4096 := by
                rcases Int.lt_or_le 4096 (cpU s a mm) with h | h
                · have h2 : T = 4097 := by rw [HT2.out, if_neg (by omega)]
                  have h3 := (pm_up (T :: t.tail) 0).2.2
                  have h4 := pm_all (T :: t.tail) 1
                  have h5 := (mayE_zero hm).2.2
                  rw [Nat.zero_add] at h3
                  have h6 : (T :: t.tail).getD 0 0 = T := rfl
                  omega
                · exact h
              subst r1
              clear hm r2 r3 HEE
              go_wp2_with fail
              refine CM.out.mono ?_; rintro e' w' ⟨rfl, hw'⟩
              have hw'' := hw'.symm
              subst hw''
              clear hw' CM
              have h6 := (H5.out.alloc 38 2 1 #[.slice so sl sd, .slice none 0 0] rfl (by decide)).intsNew (E := 2) (zs := []) (World.ownsRow_nil _ _ _ _) (Below.refl _ _) (by omega) (fun i => by simp [List.getD])
              obtain ⟨b16, HB16⟩ : ∃ z, Hid (w7.heap.size = z) := ⟨_, rfl⟩
              have H6_ := h6
              try simp only [List.cons_append, List.nil_append, List.set_cons_zero, List.set_cons_succ, List.map_cons, List.map_nil, List.getD_cons_zero, List.getD_cons_succ, World.size_alloc] at H6_
              have H6 := Lib.hid H6_
              clear H6_
              rw [HB16.out] at H6
              clear h6 H5
              go_wp2_with fail
              rw [HB16.out]
              go_loopw [100] (fun v100 wr => ∃ (i : Nat) (ao : Option Addr) (c : Nat), i ≤ mm ∧ v100 = .int .i64 i ∧ Hid (Sp Non w wr [Pt.row ⟨38, 2, some ⟨b2, 0, none⟩, 1, 1, [.slice sa 0 sc, .slice aa 1 ac]⟩, Pt.row ⟨38, 2, some ⟨b2 + 1, 0, none⟩, 1, 1, [.slice ta tn tc, .slice ba bn bc]⟩, Pt.row ⟨38, 2, some ⟨b2 + 1 + 1, 0, none⟩, 1, 1, [.slice none 0 0, .slice none 0 0]⟩, Pt.ints 3 so sl sd (T :: t.tail), Pt.row ⟨38, 2, some ⟨b16, 0, none⟩, 1, 1, [.slice so sl sd, .slice ao ((cpR s a t b i).length) c]⟩, Pt.ints 2 ao ((cpR s a t b i).length) c (cpR s a t b i)])) (fun v100 _ => mm - (RowKit.intOf v100).toNat)
              case atStart => exact ⟨0, none, 0, by omega, rfl, H6⟩
              case round =>
                clear H6
                obtain ⟨i, ao, c, hi, rfl, HO⟩ := hrel
                by_cases hlt3 : i < mm
                · have hlt' : (i : Int) < mm := by omega
                  have x0 := HO.out.cell (i := 0) rfl 0 _ rfl
                  have x1 := HO.out.cell (i := 0) rfl 1 _ rfl
                  have hw1 := how_any (s := s) (a := a) x0 x1 (HX.out.below HO.out.belowN (Nat.le_refl _)).shp (HX.out.below HO.out.belowN (Nat.le_refl _)).ats i (by first | (simp; done) | (simp; omega))
                  have hpk := pk_nonneg (s := s) HNN.out i
                  have hck : ∀ q, q < cpN a t → (cpK t b q).length = e := fun q hq => by
                    unfold cpK
                    rw [if_neg (by rw [HN.out.2.2.2.2]; omega), HEP.out, Int.toNat_natCast]
                    rw [HN.out.1] at hq
                    refine ckL_len (m := mm) ?_ hq
                    have h := HBN.out
                    rw [HEP.out] at h
                    rw [HN.out.2.2.1]
                    exact_mod_cast h
                  have hrl := cpR_len (s := s) (b := b) HNN.out hck i (by rw [HN.out.1]; omega)
                  have hui := (cpU_mono (s := s) HNN.out i (mm - i))
                  rw [show i + (mm - i) = mm by omega] at hui
                  have hrb : (cpR s a t b i).length ≤ 16777216 := by
                    rw [hrl]
                    have h1 := Nat.mul_le_mul (show (cpU s a i).toNat ≤ 4096 by omega) heb
                    omega
                  have hui2 := (cpU_mono (s := s) HNN.out (i + 1) (mm - (i + 1)))
                  rw [show i + 1 + (mm - (i + 1)) = mm by omega] at hui2
                  have hcs : cpU s a (i + 1) = cpU s a i + pkV s a i := rfl
                  obtain ⟨x, HXX⟩ : ∃ x : Nat, Hid (pkV s a i = x) := ⟨(pkV s a i).toNat, (Int.toNat_of_nonneg hpk).symm⟩
                  rw [HXX.out] at hw1 hcs
                  have hxb : x ≤ 4096 := by omega
                  have HW1 := Lib.hid hw1
                  have HCK := Lib.hid (hck i (by rw [HN.out.1]; exact hlt3))
                  have HRS : Hid (cpR s a t b (i + 1) = cpR s a t b i ++ (List.replicate x (cpK t b i)).flatten) := by
                    show _ = _
                    rw [cpR, HXX.out, Int.toNat_natCast]
                  have hmn : min (i : Int) ((mm : Int) - 1) = i := by omega
                  clear hw1 hpk hck hrl hui hui2 hcs
                  go_wp2_with fail
                  refine HW1.out.mono ?_; rintro e' w' ⟨rfl, hw'⟩
                  have hw'' := hw'.symm
                  subst hw''
                  clear hw' x0 x1
                  go_wp2_with fail
                  obtain ⟨i0, hi0, hza, hzb, hzc⟩ := info_parts (P := Try.prog) (e := 2) (z := .int .i64 0) (size := 1) (bytes := 8) (by kernel_rfl)
                  go_loopw [110] (fun v110 wx => ∃ (m : Nat) (ao' : Option Addr) (c' : Nat), m ≤ x ∧ v110 = .int .i64 m ∧ Hid (Sp Non w wx [Pt.row ⟨38, 2, some ⟨b2, 0, none⟩, 1, 1, [.slice sa 0 sc, .slice aa 1 ac]⟩, Pt.row ⟨38, 2, some ⟨b2 + 1, 0, none⟩, 1, 1, [.slice ta tn tc, .slice ba bn bc]⟩, Pt.row ⟨38, 2, some ⟨b2 + 1 + 1, 0, none⟩, 1, 1, [.slice none 0 0, .slice none 0 0]⟩, Pt.ints 3 so sl sd (T :: t.tail), Pt.row ⟨38, 2, some ⟨b16, 0, none⟩, 1, 1, [.slice so sl sd, .slice ao' ((cpR s a t b i).length + m * e) c']⟩, Pt.ints 2 ao' ((cpR s a t b i).length + m * e) c' (cpR s a t b i ++ (List.replicate m (cpK t b i)).flatten)])) (fun v110 _ => x - (RowKit.intOf v110).toNat)
                  case atStart => exact ⟨0, ao, c, by omega, rfl, by simpa using HO⟩
                  case round =>
                    clear HO
                    obtain ⟨m, ao', c', hm4, rfl, HM⟩ := hrel
                    by_cases hlt4 : m < x
                    · have hlt4' : (m : Int) < x := by omega
                      have hme : m * e ≤ 16777216 := by
                        have h1 := Nat.mul_le_mul (show m ≤ 4096 by omega) heb
                        omega
                      have HV := Lib.hid (HM.out.via (adrew1 wr))
                      have y0 := HM.out.cell (i := 1) rfl 1 _ rfl
                      have y1 := HM.out.cell (i := 4) rfl 1 _ rfl
                      have hls := (HY.out.below HV.out.belowN (Nat.le_refl _)).ats
                      simp only at hls
                      have hcap := hls.cap
                      obtain ⟨p, HPP⟩ : ∃ p, Hid (i * e = p) := ⟨_, rfl⟩
                      have hpi : (i : Int) * e = p := by rw [← HPP.out]; push_cast; rfl
                      have hpj : ((i : Int) + 1) * e = p + e := by rw [Int.add_mul, hpi, Int.one_mul]
                      have hpe : p + e ≤ bn := by
                        have h := HBN.out
                        rw [HEP.out] at h
                        have h2 : bn = mm * e := by exact_mod_cast h
                        have h3 := Nat.mul_le_mul_right e (show i + 1 ≤ mm by omega)
                        rw [Nat.succ_mul, HPP.out, ← h2] at h3
                        exact h3
                      have hbb : bn ≤ 17000000 := by
                        have h := HBN.out
                        rw [HEP.out] at h
                        have h2 : bn = mm * e := by exact_mod_cast h
                        have h3 := Nat.mul_le_mul (show mm ≤ 4096 by omega) heb
                        omega
                      have z7 : IntKind.i64.wrap ((i : Int) * e) = p := by rw [hpi]; exact IntWalk.i64_in _ (by omega)
                      have z8 : IntKind.i64.wrap (((i : Int) + 1) * e) = p + e := by rw [hpj]; exact IntWalk.i64_in _ (by omega)
                      have hck2 : cpK t b i = (b.drop p).take e := by
                        unfold cpK
                        rw [if_neg (by rw [HN.out.2.2.2.2]; omega), HEP.out, Int.toNat_natCast]
                        unfold ckL
                        rw [HPP.out]
                      have z10 : IntKind.i64.wrap ((i : Int) + 1) = (i : Int) + 1 := IntWalk.i64_in _ (by omega)
                      clear hpi hpj
                      rcases (show p = bc ∨ p < bc by omega) with hpc | hpc
                      · obtain rfl : e = 0 := by omega
                        have hp0 : p = 0 := by rw [← HPP.out]; simp
                        obtain rfl : bc = 0 := by omega
                        subst hp0
                        have LSX : Hid (Ls wr.drew ba 0 0 (cpK t b i)) := by
                          show Ls _ _ _ _ _
                          rw [hck2]
                          exact Ls.zero _ _ (Nat.zero_le _)
                        have z9 : IntKind.i64.wrap (0 : Int) = 0 := IntWalk.i64_in _ (by omega)
                        clear hls hck2 hcap
                        have hb1 : (((cpR s a t b i).length + m * 0) + 0) * 8 ≤ 140737488351232 := by omega
                        go_wp2_with fail
                        go_region_law (first
                          | (refine Sp.step_loc HV.out rfl _ _ 28 (by rfl) 2 i0 Try.underlying28 hi0 hza hzb hzc (i := 5) rfl (by rfl) (by rfl) LSX.out hb1 ?_; intro b9 d9 w9 h9; have q1 := h9.cell (i := 4) rfl 1 _ rfl; have q2 := h9.frozen (i := 4) rfl 1))
                        all_goals
                          have H10 : Hid (Sp Non w (w9.setCell ⟨b16, 1, none⟩ (.slice b9 ((cpR s a t b i).length + m * 0 + 0) d9)) [Pt.row ⟨38, 2, some ⟨b2, 0, none⟩, 1, 1, [.slice sa 0 sc, .slice aa 1 ac]⟩, Pt.row ⟨38, 2, some ⟨b2 + 1, 0, none⟩, 1, 1, [.slice ta tn tc, .slice ba bn 0]⟩, Pt.row ⟨38, 2, some ⟨b2 + 1 + 1, 0, none⟩, 1, 1, [.slice none 0 0, .slice none 0 0]⟩, Pt.ints 3 so sl sd (T :: t.tail), Pt.row ⟨38, 2, some ⟨b16, 0, none⟩, 1, 1, [.slice so sl sd, .slice b9 ((cpR s a t b i).length + (m + 1) * 0) d9]⟩, Pt.ints 2 b9 ((cpR s a t b i).length + (m + 1) * 0) d9 (cpR s a t b i ++ (List.replicate (m + 1) (cpK t b i)).flatten)]) := by
                            show Sp _ _ _ _
                            rw [List.replicate_succ', List.flatten_append, List.flatten_singleton, ← List.append_assoc, show (cpR s a t b i).length + (m + 1) * 0 = (cpR s a t b i).length + m * 0 + 0 by rw [Nat.succ_mul]; omega]
                            exact h9.put (i := 4) rfl 1 (.slice b9 ((cpR s a t b i).length + m * 0 + 0) d9)
                          clear h9 q1 q2
                          go_wp2
                          go_roundw
                          case rel => first | exact ⟨m + 1, b9, d9, by omega, by go_num, H10⟩ | ((repeat apply Exists.intro); exact ⟨⟨m + 1, b9, d9, by omega, by go_num, H10⟩, rfl⟩)
                          case measure => simp [RowKit.intOf] <;> omega
                      · have LSX : Hid (Ls wr.drew (ba.map fun x => x.add p) e (bc - p) (cpK t b i)) := by
                          show Ls _ _ _ _ _
                          rw [hck2]
                          exact hls.cutA p e hpe
                        have k0 : ¬ bc = p := by omega
                        have k1 : (0 : Int) ≤ p := by omega
                        have k2 : (p : Int) ≤ p + e := by omega
                        have k3 : (p : Int) + e ≤ bc := by omega
                        have k5 : ((p : Int) + e).toNat = p + e := by omega
                        have k8 : (p : Int) < bc := by omega
                        have k9 : ¬ bc - p = 0 := by omega
                        have k10 : p + e - p = e := by omega
                        clear hls hck2 hcap
                        have hb1 : (((cpR s a t b i).length + m * e) + e) * 8 ≤ 140737488351232 := by omega
                        go_wp2_with fail
                        go_region_law (first
                          | (refine Sp.step_loc HV.out rfl _ _ 28 (by rfl) 2 i0 Try.underlying28 hi0 hza hzb hzc (i := 5) rfl (by rfl) (by rfl) LSX.out hb1 ?_; intro b9 d9 w9 h9; have q1 := h9.cell (i := 4) rfl 1 _ rfl; have q2 := h9.frozen (i := 4) rfl 1))
                        all_goals
                          have H10 : Hid (Sp Non w (w9.setCell ⟨b16, 1, none⟩ (.slice b9 ((cpR s a t b i).length + m * e + e) d9)) [Pt.row ⟨38, 2, some ⟨b2, 0, none⟩, 1, 1, [.slice sa 0 sc, .slice aa 1 ac]⟩, Pt.row ⟨38, 2, some ⟨b2 + 1, 0, none⟩, 1, 1, [.slice ta tn tc, .slice ba bn bc]⟩, Pt.row ⟨38, 2, some ⟨b2 + 1 + 1, 0, none⟩, 1, 1, [.slice none 0 0, .slice none 0 0]⟩, Pt.ints 3 so sl sd (T :: t.tail), Pt.row ⟨38, 2, some ⟨b16, 0, none⟩, 1, 1, [.slice so sl sd, .slice b9 ((cpR s a t b i).length + (m + 1) * e) d9]⟩, Pt.ints 2 b9 ((cpR s a t b i).length + (m + 1) * e) d9 (cpR s a t b i ++ (List.replicate (m + 1) (cpK t b i)).flatten)]) := by
                            show Sp _ _ _ _
                            rw [List.replicate_succ', List.flatten_append, List.flatten_singleton, ← List.append_assoc, show (cpR s a t b i).length + (m + 1) * e = (cpR s a t b i).length + m * e + e by rw [Nat.succ_mul]; omega]
                            exact h9.put (i := 4) rfl 1 (.slice b9 ((cpR s a t b i).length + m * e + e) d9)
                          clear h9 q1 q2
                          go_wp2
                          go_roundw
                          case rel => exact ⟨m + 1, b9, d9, by omega, by go_num, H10⟩
                          case measure => simp [RowKit.intOf] <;> omega
                    · have hge4 : ¬ ((m : Int) < x) := by omega
                      obtain rfl : m = x := by omega
                      have HJ : Hid (Sp Non w wr [Pt.row ⟨38, 2, some ⟨b2, 0, none⟩, 1, 1, [.slice sa 0 sc, .slice aa 1 ac]⟩, Pt.row ⟨38, 2, some ⟨b2 + 1, 0, none⟩, 1, 1, [.slice ta tn tc, .slice ba bn bc]⟩, Pt.row ⟨38, 2, some ⟨b2 + 1 + 1, 0, none⟩, 1, 1, [.slice none 0 0, .slice none 0 0]⟩, Pt.ints 3 so sl sd (T :: t.tail), Pt.row ⟨38, 2, some ⟨b16, 0, none⟩, 1, 1, [.slice so sl sd, .slice ao' ((cpR s a t b (i + 1)).length) c']⟩, Pt.ints 2 ao' ((cpR s a t b (i + 1)).length) c' (cpR s a t b (i + 1))]) := by
                        show Sp _ _ _ _
                        rw [HRS.out, List.length_append, rep_len HCK.out]
                        exact HM.out
                      have hlen : (cpR s a t b (i + 1)).length = (cpR s a t b i).length + m * e := by rw [HRS.out, List.length_append, rep_len HCK.out]
                      go_wp2
                      go_roundw
                      case rel => exact ⟨i + 1, ao', c', by omega, by go_num, HJ⟩
                      case measure => simp [RowKit.intOf] <;> omega
                · have hge3 : ¬ ((i : Int) < mm) := by omega
                  obtain rfl : i = mm := by omega
                  have hsp := HO.out
                  rw [← HR.out.1, ← HR.out.2] at hsp
                  have h7 := hsp.arrOf (i := 3) (j := 5) rfl (by decide) rfl
                  have H7_ := h7
                  try simp only [List.cons_append, List.nil_append, List.set_cons_zero, List.set_cons_succ, List.map_cons, List.map_nil, List.getD_cons_zero, List.getD_cons_succ, World.size_alloc] at H7_
                  have H7 := Lib.hid H7_
                  clear H7_
                  have x2 := H7.out.cell (i := 2) rfl 0 _ rfl
                  have x3 := H7.out.cell (i := 2) rfl 1 _ rfl
                  have y0 := H7.out.cell (i := 4) rfl 0 _ rfl
                  have y1 := H7.out.cell (i := 4) rfl 1 _ rfl
                  have f2 := H7.out.frozen (i := 2) rfl 0
                  have f3 := H7.out.frozen (i := 2) rfl 1
                  have HF : Hid (∀ u v, MadeE w S A 0 (.returned (.tuple #[.agg #[.slice so sl sd, .slice ao A.length c], .int .i64 0])) ((wr.setCell ⟨b2 + 1 + 1, 0, none⟩ u).setCell ⟨b2 + 1 + 1, 1, none⟩ v)) := fun u v => ((H7.out.put (i := 2) rfl 0 u).put (i := 2) rfl 1 v).madeE (i := 5) (B := ⟨so, sl, sd, ao, A.length, c, S, A⟩) rfl 0
                  clear hsp h7 H7
                  go_wp2
                  exact bodyPost_ret (v := .tuple #[.agg #[.slice so sl sd, .slice ao A.length c], .int .i64 0]) (by simp [results, Try.results50, go_sem, *]) rfl (HF.out _ _)
            · have hE0 : E = 17 := by rw [HEE.out.1, HNN.out, HTT.out]; simp [hm]
              have r2 : S = [] := by rw [HEE.out.2.1, hE0]; rfl
              have r3 : A = [] := by rw [HEE.out.2.2, hE0]; rfl
              subst hE0 r2 r3
              obtain ⟨me, he⟩ : ∃ z, z = mayE (T :: t.tail) := ⟨_, rfl⟩
              rw [← he] at CM hm
              have q0 : (me != 0) = true := by simpa using hm
              have x2 := H5.out.cell (i := 2) rfl 0 _ rfl
              have x3 := H5.out.cell (i := 2) rfl 1 _ rfl
              have f2 := H5.out.frozen (i := 2) rfl 0
              have f3 := H5.out.frozen (i := 2) rfl 1
              have HF : Hid (∀ u v, MadeE w [] [] 17 (.returned (.tuple #[.agg #[.slice none 0 0, .slice none 0 0], .int .i64 17])) ((w7.setCell ⟨b2 + 1 + 1, 0, none⟩ u).setCell ⟨b2 + 1 + 1, 1, none⟩ v)) := fun u v => made_nil 17 ((H5.out.put (i := 2) rfl 0 u).put (i := 2) rfl 1 v).belowN
              clear he hm HEE H5
              go_wp2_with fail
              refine CM.out.mono ?_; rintro e' w' ⟨rfl, hw'⟩
              have hw'' := hw'.symm
              subst hw''
              go_wp2
              exact bodyPost_ret (v := .tuple #[.agg #[.slice none 0 0, .slice none 0 0], .int .i64 17]) (by simp [results, Try.results50, go_sem, *]) rfl (HF.out _ _)
  · rw [hn] at CC1
    have r1 : E = 10 := by rw [HEE.out.1, hn]; rfl
    have r2 : S = [] := by rw [HEE.out.2.1, r1]; rfl
    have r3 : A = [] := by rw [HEE.out.2.2, r1]; rfl
    subst r1 r2 r3
    have HF : Hid (∀ q u v, MadeE w [] [] 10 (.returned (.tuple #[.agg #[.slice none 0 0, .slice none 0 0], .int .i64 10])) (((W.drewN q).setCell ⟨b2 + 1 + 1, 0, none⟩ u).setCell ⟨b2 + 1 + 1, 1, none⟩ v)) := fun q u v => made_nil 10 (((H1.out.via (adrew W q)).put (i := 2) rfl 0 u).put (i := 2) rfl 1 v).belowN
    have x2 := H1.out.cell (i := 2) rfl 0 _ rfl
    have x3 := H1.out.cell (i := 2) rfl 1 _ rfl
    have f2 := H1.out.frozen (i := 2) rfl 0
    have f3 := H1.out.frozen (i := 2) rfl 1
    clear hn
    go_enter Try.func50, Try.ntmps50
    go_wp2_with fail
    rw [HW.out, HB2.out]
    go_step3
    go_wp2_with fail
    go_quiet (fail)
    go_wp2_with fail
    refine (CC1.out _).mono ?_; rintro e w' ⟨rfl, hw'⟩
    have hw'' := hw'.symm
    subst hw''
    go_wp2
    exact bodyPost_ret (v := .tuple #[.agg #[.slice none 0 0, .slice none 0 0], .int .i64 10]) (by simp [results, Try.results50, go_sem, *]) rfl (HF.out _ _ _)
set_option maxRecDepth 100000 in
set_option maxHeartbeats 6400000 in
theorem copies_2 {w : World} {X Y : Ar} (hX : X.Is w) (hY : Y.Is w) (h1 : X.sn = 1) (hmy : amE Y.s Y.a = 0) (hxn : X.an ≤ 4096)
    (h2 : Y.sn = 0)
    : Calls Try.prog 50 #[X.v, Y.v] w (MadeE w (cpS X.s X.a Y.s) (cpA X.s X.a Y.s Y.a) (cpE X.s X.a Y.s)) := by
  obtain ⟨sa, sn, sc, aa, an, ac, s, a⟩ := X
  obtain ⟨ta, tn, tc, ba, bn, bc, t, b⟩ := Y
  simp only [Ar.v]
  simp only at h1 h2 hxn hmy
  have hsl : s.length = sn := hX.shp.len
  have htl : t.length = tn := hY.shp.len
  have hal : a.length = an := hX.ats.len
  have hbl : b.length = bn := hY.ats.len
  obtain ⟨hmt, hpt⟩ := amE_zero hmy
  have ht8 := (mayE_zero hmt).2.1
  subst h2
  have hb1 : bn = 1 := by
    have e : t = [] := List.eq_nil_of_length_eq_zero htl
    subst e
    have : pr [] = (1 : Int) := rfl
    omega
  subst hb1
  subst h1
  have hit : itE t b = (1 : Int) := by
    unfold itE
    rw [if_pos hmy]
    rw [if_pos htl]
  have hN : cpN a t = an := by
    unfold cpN
    rw [if_pos htl, hal]
  have HT1 : Hid (pr t.tail = 1) := by
    show _ = _
    rw [List.eq_nil_of_length_eq_zero htl]; rfl
  have hnw : ¬ cpW s a t := by
    rintro ⟨q1, q2, q3⟩
    omega
  obtain ⟨E, HE⟩ : ∃ z, Hid (cpE s a t = z) := ⟨_, rfl⟩
  obtain ⟨S, HS⟩ : ∃ z, Hid (cpS s a t = z) := ⟨_, rfl⟩
  obtain ⟨A, HA⟩ : ∃ z, Hid (cpA s a t b = z) := ⟨_, rfl⟩
  rw [HE.out, HS.out, HA.out]
  have eE : E = if a.any (fun k => decide (k < 0)) then 10 else if mayE (cpT s a t :: t.tail) = 0 then 0 else 17 := by rw [← HE.out, cpE, if_neg hnw]
  have eS : S = if E = 0 then cpT s a t :: t.tail else [] := by rw [← HS.out, cpS, HE.out]
  have eA : A = if E = 0 then cpR s a t b (cpN a t) else [] := by rw [← HA.out, cpA, HE.out]
  rw [hN] at eA
  have HEE := Lib.hid (And.intro eE (And.intro eS eA))
  obtain ⟨W, HW⟩ : ∃ z, Hid (((w.alloc (.cells #[.slice sa 1 sc, .slice aa an ac] 38)).alloc (.cells #[.slice ta 0 tc, .slice ba 1 bc] 38)).alloc (.cells #[.slice none 0 0, .slice none 0 0] 38) = z) := ⟨_, rfl⟩
  have H0 := (((Sp.start Non w).alloc 38 2 1 #[.slice sa 1 sc, .slice aa an ac] rfl (by decide)).alloc 38 2 1 #[.slice ta 0 tc, .slice ba 1 bc] rfl (by decide)).alloc 38 2 1 #[.slice none 0 0, .slice none 0 0] rfl (by decide)
  rw [HW.out] at H0
  obtain ⟨b2, HB2⟩ : ∃ z, Hid (w.heap.size = z) := ⟨_, rfl⟩
  have HQ_ := H0
  try simp only [List.cons_append, List.nil_append, List.set_cons_zero, List.set_cons_succ, List.map_cons, List.map_nil, List.getD_cons_zero, List.getD_cons_succ, World.size_alloc] at HQ_
  have HQ := Lib.hid HQ_
  clear HQ_
  rw [HB2.out] at HQ
  have H1 : Hid (Sp Non w W (cpB b2 sa 1 sc aa an ac ta 0 tc ba 1 bc)) := HQ
  clear HQ
  have HX := Lib.hid hX
  have HY := Lib.hid hY
  have HN := Lib.hid (And.intro hN (And.intro hal (And.intro hbl (And.intro hsl htl))))
  have HMT := Lib.hid (And.intro hmt hpt)
  have CC0 := containsneg_c (hX.ats.below H1.out.belowN (Nat.le_refl _))
  have CI0 := fun q => items_any (hY.below (H1.out.via (adrew W q)).belowN (Nat.le_refl _))
  simp only [Ar.v] at CC0 CI0
  rw [hit] at CI0
  have CI := Lib.hid CI0
  have x0 := H1.out.cell (i := 0) rfl 0 _ rfl
  have x1 := H1.out.cell (i := 0) rfl 1 _ rfl
  have y0 := H1.out.cell (i := 1) rfl 0 _ rfl
  have y1 := H1.out.cell (i := 1) rfl 1 _ rfl
  have CC1 := Lib.hid (fun q => containsneg_c ((HX.out.ats.below (H1.out.via (adrew W q)).belowN (Nat.le_refl _))))
  simp only at CC1
  clear hX hY H0 hsl htl hal hbl hmt hpt hmy hit hN hnw eE eS eA HE HS HA CC0 CI0
  cases hn : a.any (fun k => decide (k < 0))
  · rw [hn] at CC1
    have HNN := Lib.hid hn
    clear hn
    go_enter Try.func50, Try.ntmps50
    go_wp2_with fail
    rw [HW.out, HB2.out]
    go_step3
    go_wp2_with fail
    go_quiet (fail)
    go_wp2_with fail
    refine (CC1.out _).mono ?_; rintro e w' ⟨rfl, hw'⟩
    have hw'' := hw'.symm
    subst hw''
    clear hw'
    go_wp2_with fail
    refine (CI.out _).mono ?_; rintro e w5 ⟨rfl, hb5⟩
    have H3 : Hid (Sp Non w w5 (cpB b2 sa 1 sc aa an ac ta 0 tc ba 1 bc)) := (H1.out.via (adrew W _)).via hb5
    clear hb5 CC1 CI H1 x0 x1 y0 y1
    have x0 := H3.out.cell (i := 0) rfl 0 _ rfl
    have x1 := H3.out.cell (i := 0) rfl 1 _ rfl
    have y0 := H3.out.cell (i := 1) rfl 0 _ rfl
    have y1 := H3.out.cell (i := 1) rfl 1 _ rfl
    go_upto_if 57 with fail
    go_cut [8] from 57 to 60 (fun v8 wx => ∃ (ro : Option Addr) (rc : Nat), v8 = .slice ro 0 rc ∧ wx = w5 ∧ Hid (Ls w5 ro 0 rc t.tail))
    case first =>
      have HT : Hid (Ls w5 none 0 0 t.tail) := by
        have e : t = [] := List.eq_nil_of_length_eq_zero HN.out.2.2.2.2
        show Ls _ _ _ _ _
        rw [e]
        exact Ls.zero _ _ (Nat.zero_le _)
      go_wp2_with fail
      go_meet
      exact ⟨none, 0, rfl, rfl, HT⟩
    case rest =>
      obtain ⟨ro, rc, rfl, rfl, HRO⟩ := hcut
      have hmr : mayE t.tail = 0 := by
        have h := mayE_app (s := t.take 1) (t := t.drop 1) (by rw [List.take_append_drop]; exact HMT.out.1)
        rw [← List.drop_one]; exact h.2
      have hrl : t.tail.length = 0 := by rw [List.length_tail, HN.out.2.2.2.2]
      have hpr := pr_nonneg hmr
      have HMR := Lib.hid hmr
      have HRL := Lib.hid hrl
      have hmf : ∀ (fn : Fn) (first cap : Array Value) (w : World), (Instr.makeFunc fn first cap).run Try.prog w = .ok (.func fn first cap) w := fun _ _ _ _ => rfl
      obtain ⟨e, HEP⟩ : ∃ e : Nat, Hid (pr t.tail = e) := ⟨(pr t.tail).toNat, (Int.toNat_of_nonneg hpr.1).symm⟩
      have heb : e ≤ 4096 := by have := HEP.out; omega
      clear hmr hrl hpr y0 y1
      go_wp2_with fail
      go_loopw [9, 63] (fun v9 v63 wr => ∃ (j : Nat) (p : Int), j ≤ 0 ∧ v63 = .int .i64 j ∧ v9 = .int .i64 p ∧ 0 ≤ p ∧ p ≤ 4096 ∧ wr = wc ∧ Hid (p = pr (t.tail.take j))) (fun _ v63 _ => 0 - (RowKit.intOf v63).toNat)
      case atStart => exact ⟨0, 1, by omega, rfl, rfl, by omega, by omega, rfl, rfl⟩
      case round =>
        obtain ⟨j, p, hj, rfl, rfl, hp0, hp1, rfl, HP⟩ := hrel
        by_cases hlt : j < 0
        · have hlt' : (j : Int) < 0 := by omega
          obtain ⟨g1, o1, e1, hc1⟩ := HRO.out.at (by omega)
          subst e1
          have d1 := hc1 j hlt
          have hst := pr_snoc (s := t.tail) (k := j) (by rw [HRL.out]; exact hlt)
          have hb1 := pr_le t.tail (mayE_zero HMR.out).1 (j + 1)
          have hb2 := pm_all t.tail (j + 1)
          have hb3 := (mayE_zero HMR.out).2.2
          rw [← HP.out] at hst
          rw [hst] at hb1
          obtain ⟨x, HX2⟩ : ∃ z, Hid (t.tail.getD j 0 = z) := ⟨_, rfl⟩
          rw [HX2.out] at d1 hst hb1
          obtain ⟨q, HQ⟩ : ∃ z, Hid (p * x = z) := ⟨_, rfl⟩
          rw [HQ.out] at hst hb1
          have hqb : 0 ≤ q ∧ q ≤ 4096 := by omega
          have z1 : IntKind.i64.wrap (p * x) = q := by rw [HQ.out]; exact IntWalk.i64_in _ (by omega)
          have HP2 := Lib.hid hst.symm
          clear hc1 hst hb1 hb2 hb3
          go_wp2
          go_roundw
          case rel => exact ⟨j + 1, q, by omega, by go_num, rfl, by omega, by omega, trivial, HP2⟩
          case measure => simp [RowKit.intOf] <;> omega
        · have hge : ¬ ((j : Int) < 0) := by omega
          obtain rfl : j = 0 := by omega
          obtain rfl : p = (e : Int) := by
            have h := HP.out
            rw [List.take_of_length_le (by rw [HRL.out]; exact Nat.le_refl _)] at h
            exact h.trans HEP.out
          have HW0 := Lib.hid (fun k (hk : k < an) => how_any (s := s) (a := a) x0 x1 (HX.out.below H3.out.belowN (Nat.le_refl _)).shp (HX.out.below H3.out.belowN (Nat.le_refl _)).ats k (by first | (simp; done) | (simp; omega)))
          obtain ⟨T, HTT⟩ : ∃ z, Hid (cpT s a t = z) := ⟨_, rfl⟩
          have hTT : T = if cpU s a an ≤ 4096 then cpU s a an else 4097 := by rw [← HTT.out, cpT, HN.out.1]
          have HT2 := Lib.hid hTT
          clear hTT HP
          go_wp2_with fail
          go_step3
          go_upto_block 2 with fail
          go_cut [12, 14] from 73 to 87 (fun v12 v14 wx => v12 = .int .i64 T ∧ wx = wr)
          case first =>
            go_wp2_with fail
            go_loopw [12, 73] (fun v12 v73 wx => ∃ (k u : Nat), k ≤ an ∧ v73 = .int .i64 k ∧ v12 = .int .i64 u ∧ u ≤ 4096 ∧ wx = wr ∧ Hid (cpU s a k = u)) (fun _ v73 _ => an - (RowKit.intOf v73).toNat)
            case atStart => exact ⟨0, 0, by omega, rfl, rfl, by omega, rfl, rfl⟩
            case round =>
              obtain ⟨k, u, hk, rfl, rfl, hu, rfl, HU⟩ := hrel
              by_cases hlt2 : k < an
              · have hlt' : (k : Int) < an := by omega
                have HW1 := Lib.hid (HW0.out k hlt2)
                have hpk := pk_nonneg (s := s) HNN.out k
                have hnx : cpU s a (k + 1) = cpU s a k + pkV s a k := rfl
                have hmo := (cpU_mono (s := s) HNN.out (k + 1) (an - (k + 1))).2
                rw [show k + 1 + (an - (k + 1)) = an by omega] at hmo
                rw [HU.out] at hnx
                obtain ⟨x, HXX⟩ : ∃ x : Nat, Hid (pkV s a k = x) := ⟨(pkV s a k).toNat, (Int.toNat_of_nonneg hpk).symm⟩
                rw [HXX.out] at HW1 hnx
                by_cases hbk : 4096 - u < x
                · have hbk' : (4096 : Int) - u < x := by omega
                  have hT : T = 4097 := by rw [HT2.out, if_neg (by omega)]
                  subst hT
                  clear hnx hmo hpk hbk
                  go_wp2_with fail
                  refine HW1.out.mono ?_; rintro e' w' ⟨rfl, hw'⟩
                  have hw'' := hw'.symm
                  subst hw''
                  clear hw'
                  go_wp2_with fail
                  go_meet
                  exact ⟨rfl, rfl⟩
                · have hbk' : ¬ ((4096 : Int) - u < x) := by omega
                  have HU2 : Hid (cpU s a (k + 1) = ((u + x : Nat) : Int)) := by show _ = _; rw [hnx]; push_cast; rfl
                  have hux : u + x ≤ 4096 := by omega
                  have hux2 : (u : Int) + x ≤ 4096 := by omega
                  clear hnx hmo hpk
                  go_wp2_with fail
                  refine HW1.out.mono ?_; rintro e' w' ⟨rfl, hw'⟩
                  have hw'' := hw'.symm
                  subst hw''
                  clear hw'
                  go_wp2_with fail
                  refine HW1.out.mono ?_; rintro e' w' ⟨rfl, hw'⟩
                  have hw'' := hw'.symm
                  subst hw''
                  clear hw'
                  go_wp2
                  go_roundw
                  case rel => exact ⟨k + 1, u + x, by omega, by go_num, by go_num, hux, trivial, HU2⟩
                  case measure => simp [RowKit.intOf] <;> omega
              · have hge2 : ¬ ((k : Int) < an) := by omega
                obtain rfl : k = an := by omega
                have hT : T = (u : Int) := by rw [HT2.out, HU.out, if_pos (by omega)]
                subst hT
                go_wp2_with fail
                go_meet
                exact ⟨rfl, rfl⟩
          case rest =>
            obtain ⟨rfl, rfl⟩ := hcut
            obtain ⟨U, hU⟩ : ∃ z : World, z = wc := ⟨_, rfl⟩
            subst hU
            have hu0 := (cpU_mono (s := s) HNN.out an 0).1
            have hTb : 0 ≤ T ∧ T ≤ 4097 := by
              rw [HT2.out]
              split <;> omega
            have h4 := ((H3.out.alloc 3 1 1 #[.int .i64 T] rfl (by decide)).toInts (i := 3) (zs := [T]) rfl (by omega) (rng_one (by omega))).alloc 25 1 2 #[.slice (some ⟨U.heap.size, 0, none⟩) 1 1, .slice ro 0 rc] rfl (by decide)
            have ct := (concat_two (h4.rlt (i := 4) rfl).1 (h4.cell (i := 4) rfl 0 _ rfl) (h4.cell (i := 4) rfl 1 _ rfl) (h4.ls (i := 3) rfl) ((HRO.out.via (abal U _)).via (abal _ _)) (by omega) (by omega))
            simp only [World.size_alloc, List.singleton_append] at ct
            have CT := Lib.hid ct
            simp only [cpB] at h4
            have H4_ := h4
            try simp only [List.cons_append, List.nil_append, List.set_cons_zero, List.set_cons_succ, List.map_cons, List.map_nil, List.getD_cons_zero, List.getD_cons_succ, World.size_alloc] at H4_
            have H4 := Lib.hid H4_
            clear H4_
            clear hu0 h4 ct
            go_wp2_with fail
            refine CT.out.mono ?_; rintro e' w7 ⟨so, sl, sd, rfl, hL7, hO7, hB7⟩
            have H5_ := (H4.out.intsNew hO7 hB7 hL7.big hL7.rng).pick [0, 1, 2, 5] (by decide)
            try simp only [List.cons_append, List.nil_append, List.set_cons_zero, List.set_cons_succ, List.map_cons, List.map_nil, List.getD_cons_zero, List.getD_cons_succ, World.size_alloc] at H5_
            have H5 := Lib.hid H5_
            clear H5_
            have CM := Lib.hid (may_any (H5.out.ls (i := 3) rfl))
            clear hL7 hO7 hB7 H4 CT H3 x0 x1
            by_cases hm : mayE (T :: t.tail) = 0
            · have r1 : E = 0 := by rw [HEE.out.1, HNN.out, HTT.out]; simp [hm]
              have r2 : S = T :: t.tail := by rw [HEE.out.2.1, if_pos r1, HTT.out]
              have r3 : A = cpR s a t b an := by rw [HEE.out.2.2, if_pos r1]
              have HR := Lib.hid (And.intro r2 r3)
              rw [hm] at CM
              have hTe : cpU s a an ≤ 4096 := by
                rcases Int.lt_or_le 4096 (cpU s a an) with h | h
                · have h2 : T = 4097 := by rw [HT2.out, if_neg (by omega)]
                  have h3 := (pm_up (T :: t.tail) 0).2.2
                  have h4 := pm_all (T :: t.tail) 1
                  have h5 := (mayE_zero hm).2.2
                  rw [Nat.zero_add] at h3
                  have h6 : (T :: t.tail).getD 0 0 = T := rfl
                  omega
                · exact h
              subst r1
              clear hm r2 r3 HEE
              go_wp2_with fail
              refine CM.out.mono ?_; rintro e' w' ⟨rfl, hw'⟩
              have hw'' := hw'.symm
              subst hw''
              clear hw' CM
              have h6 := (H5.out.alloc 38 2 1 #[.slice so sl sd, .slice none 0 0] rfl (by decide)).intsNew (E := 2) (zs := []) (World.ownsRow_nil _ _ _ _) (Below.refl _ _) (by omega) (fun i => by simp [List.getD])
              obtain ⟨b16, HB16⟩ : ∃ z, Hid (w7.heap.size = z) := ⟨_, rfl⟩
              have H6_ := h6
              try simp only [List.cons_append, List.nil_append, List.set_cons_zero, List.set_cons_succ, List.map_cons, List.map_nil, List.getD_cons_zero, List.getD_cons_succ, World.size_alloc] at H6_
              have H6 := Lib.hid H6_
              clear H6_
              rw [HB16.out] at H6
              clear h6 H5
              go_wp2_with fail
              rw [HB16.out]
              go_loopw [100] (fun v100 wr => ∃ (i : Nat) (ao : Option Addr) (c : Nat), i ≤ an ∧ v100 = .int .i64 i ∧ Hid (Sp Non w wr [Pt.row ⟨38, 2, some ⟨b2, 0, none⟩, 1, 1, [.slice sa 1 sc, .slice aa an ac]⟩, Pt.row ⟨38, 2, some ⟨b2 + 1, 0, none⟩, 1, 1, [.slice ta 0 tc, .slice ba 1 bc]⟩, Pt.row ⟨38, 2, some ⟨b2 + 1 + 1, 0, none⟩, 1, 1, [.slice none 0 0, .slice none 0 0]⟩, Pt.ints 3 so sl sd (T :: t.tail), Pt.row ⟨38, 2, some ⟨b16, 0, none⟩, 1, 1, [.slice so sl sd, .slice ao ((cpR s a t b i).length) c]⟩, Pt.ints 2 ao ((cpR s a t b i).length) c (cpR s a t b i)])) (fun v100 _ => an - (RowKit.intOf v100).toNat)
              case atStart => exact ⟨0, none, 0, by omega, rfl, H6⟩
              case round =>
                clear H6
                obtain ⟨i, ao, c, hi, rfl, HO⟩ := hrel
                by_cases hlt3 : i < an
                · have hlt' : (i : Int) < an := by omega
                  have x0 := HO.out.cell (i := 0) rfl 0 _ rfl
                  have x1 := HO.out.cell (i := 0) rfl 1 _ rfl
                  have hw1 := how_any (s := s) (a := a) x0 x1 (HX.out.below HO.out.belowN (Nat.le_refl _)).shp (HX.out.below HO.out.belowN (Nat.le_refl _)).ats i (by first | (simp; done) | (simp; omega))
                  have hpk := pk_nonneg (s := s) HNN.out i
                  have hck : ∀ q, q < cpN a t → (cpK t b q).length = e := fun q hq => by
                    unfold cpK
                    rw [if_pos HN.out.2.2.2.2, HEP.out, Int.toNat_natCast]
                    have := HT1.out
                    rw [HEP.out] at this
                    refine ckL_len (m := 1) ?_ (by omega)
                    rw [HN.out.2.2.1]; omega
                  have hrl := cpR_len (s := s) (b := b) HNN.out hck i (by rw [HN.out.1]; omega)
                  have hui := (cpU_mono (s := s) HNN.out i (an - i))
                  rw [show i + (an - i) = an by omega] at hui
                  have hrb : (cpR s a t b i).length ≤ 16777216 := by
                    rw [hrl]
                    have h1 := Nat.mul_le_mul (show (cpU s a i).toNat ≤ 4096 by omega) heb
                    omega
                  have hui2 := (cpU_mono (s := s) HNN.out (i + 1) (an - (i + 1)))
                  rw [show i + 1 + (an - (i + 1)) = an by omega] at hui2
                  have hcs : cpU s a (i + 1) = cpU s a i + pkV s a i := rfl
                  obtain ⟨x, HXX⟩ : ∃ x : Nat, Hid (pkV s a i = x) := ⟨(pkV s a i).toNat, (Int.toNat_of_nonneg hpk).symm⟩
                  rw [HXX.out] at hw1 hcs
                  have hxb : x ≤ 4096 := by omega
                  have HW1 := Lib.hid hw1
                  have HCK := Lib.hid (hck i (by rw [HN.out.1]; exact hlt3))
                  have HRS : Hid (cpR s a t b (i + 1) = cpR s a t b i ++ (List.replicate x (cpK t b i)).flatten) := by
                    show _ = _
                    rw [cpR, HXX.out, Int.toNat_natCast]
                  have hmn : min (i : Int) 0 = 0 := by omega
                  clear hw1 hpk hck hrl hui hui2 hcs
                  go_wp2_with fail
                  refine HW1.out.mono ?_; rintro e' w' ⟨rfl, hw'⟩
                  have hw'' := hw'.symm
                  subst hw''
                  clear hw' x0 x1
                  go_wp2_with fail
                  obtain ⟨i0, hi0, hza, hzb, hzc⟩ := info_parts (P := Try.prog) (e := 2) (z := .int .i64 0) (size := 1) (bytes := 8) (by kernel_rfl)
                  go_loopw [110] (fun v110 wx => ∃ (m : Nat) (ao' : Option Addr) (c' : Nat), m ≤ x ∧ v110 = .int .i64 m ∧ Hid (Sp Non w wx [Pt.row ⟨38, 2, some ⟨b2, 0, none⟩, 1, 1, [.slice sa 1 sc, .slice aa an ac]⟩, Pt.row ⟨38, 2, some ⟨b2 + 1, 0, none⟩, 1, 1, [.slice ta 0 tc, .slice ba 1 bc]⟩, Pt.row ⟨38, 2, some ⟨b2 + 1 + 1, 0, none⟩, 1, 1, [.slice none 0 0, .slice none 0 0]⟩, Pt.ints 3 so sl sd (T :: t.tail), Pt.row ⟨38, 2, some ⟨b16, 0, none⟩, 1, 1, [.slice so sl sd, .slice ao' ((cpR s a t b i).length + m * e) c']⟩, Pt.ints 2 ao' ((cpR s a t b i).length + m * e) c' (cpR s a t b i ++ (List.replicate m (cpK t b i)).flatten)])) (fun v110 _ => x - (RowKit.intOf v110).toNat)
                  case atStart => exact ⟨0, ao, c, by omega, rfl, by simpa using HO⟩
                  case round =>
                    clear HO
                    obtain ⟨m, ao', c', hm4, rfl, HM⟩ := hrel
                    by_cases hlt4 : m < x
                    · have hlt4' : (m : Int) < x := by omega
                      have hme : m * e ≤ 16777216 := by
                        have h1 := Nat.mul_le_mul (show m ≤ 4096 by omega) heb
                        omega
                      have HV := Lib.hid (HM.out.via (adrew1 wr))
                      have y0 := HM.out.cell (i := 1) rfl 1 _ rfl
                      have y1 := HM.out.cell (i := 4) rfl 1 _ rfl
                      have hls := (HY.out.below HV.out.belowN (Nat.le_refl _)).ats
                      simp only at hls
                      have hcap := hls.cap
                      have he1 : e = 1 := by have h1 := HT1.out; rw [HEP.out] at h1; omega
                      have LSX : Hid (Ls wr.drew ba e bc (cpK t b i)) := by
                        have h1 : cpK t b i = b := by
                          unfold cpK
                          rw [if_pos HN.out.2.2.2.2, HEP.out, Int.toNat_natCast, he1]
                          unfold ckL
                          rw [Nat.zero_mul, List.drop_zero, List.take_of_length_le (by rw [HN.out.2.2.1]; exact Nat.le_refl _)]
                        show Ls _ _ _ _ _
                        rw [h1, he1]
                        exact hls
                      have k1 : (e : Int) ≤ bc := by omega
                      have k2 : (0 : Int) < bc := by omega
                      have k3 : ¬ bc = 0 := by omega
                      have z7 : IntKind.i64.wrap (0 : Int) = 0 := IntWalk.i64_in _ (by omega)
                      have z8 : IntKind.i64.wrap (1 : Int) = 1 := IntWalk.i64_in _ (by omega)
                      have z9 : IntKind.i64.wrap (e : Int) = e := IntWalk.i64_in _ (by omega)
                      clear hls he1 hcap
                      have hb1 : (((cpR s a t b i).length + m * e) + e) * 8 ≤ 140737488351232 := by omega
                      go_wp2_with fail
                      go_region_law (first
                        | (refine Sp.step_loc HV.out rfl _ _ 28 (by rfl) 2 i0 Try.underlying28 hi0 hza hzb hzc (i := 5) rfl (by rfl) (by rfl) LSX.out hb1 ?_; intro b9 d9 w9 h9; have q1 := h9.cell (i := 4) rfl 1 _ rfl; have q2 := h9.frozen (i := 4) rfl 1))
                      all_goals
                        have H10 : Hid (Sp Non w (w9.setCell ⟨b16, 1, none⟩ (.slice b9 ((cpR s a t b i).length + m * e + e) d9)) [Pt.row ⟨38, 2, some ⟨b2, 0, none⟩, 1, 1, [.slice sa 1 sc, .slice aa an ac]⟩, Pt.row ⟨38, 2, some ⟨b2 + 1, 0, none⟩, 1, 1, [.slice ta 0 tc, .slice ba 1 bc]⟩, Pt.row ⟨38, 2, some ⟨b2 + 1 + 1, 0, none⟩, 1, 1, [.slice none 0 0, .slice none 0 0]⟩, Pt.ints 3 so sl sd (T :: t.tail), Pt.row ⟨38, 2, some ⟨b16, 0, none⟩, 1, 1, [.slice so sl sd, .slice b9 ((cpR s a t b i).length + (m + 1) * e) d9]⟩, Pt.ints 2 b9 ((cpR s a t b i).length + (m + 1) * e) d9 (cpR s a t b i ++ (List.replicate (m + 1) (cpK t b i)).flatten)]) := by
                          show Sp _ _ _ _
                          rw [List.replicate_succ', List.flatten_append, List.flatten_singleton, ← List.append_assoc, show (cpR s a t b i).length + (m + 1) * e = (cpR s a t b i).length + m * e + e by rw [Nat.succ_mul]; omega]
                          exact h9.put (i := 4) rfl 1 (.slice b9 ((cpR s a t b i).length + m * e + e) d9)
                        clear h9 q1 q2
                        go_wp2
                        go_roundw
                        case rel => exact ⟨m + 1, b9, d9, by omega, by go_num, H10⟩
                        case measure => simp [RowKit.intOf] <;> omega
                    · have hge4 : ¬ ((m : Int) < x) := by omega
                      obtain rfl : m = x := by omega
                      have HJ : Hid (Sp Non w wr [Pt.row ⟨38, 2, some ⟨b2, 0, none⟩, 1, 1, [.slice sa 1 sc, .slice aa an ac]⟩, Pt.row ⟨38, 2, some ⟨b2 + 1, 0, none⟩, 1, 1, [.slice ta 0 tc, .slice ba 1 bc]⟩, Pt.row ⟨38, 2, some ⟨b2 + 1 + 1, 0, none⟩, 1, 1, [.slice none 0 0, .slice none 0 0]⟩, Pt.ints 3 so sl sd (T :: t.tail), Pt.row ⟨38, 2, some ⟨b16, 0, none⟩, 1, 1, [.slice so sl sd, .slice ao' ((cpR s a t b (i + 1)).length) c']⟩, Pt.ints 2 ao' ((cpR s a t b (i + 1)).length) c' (cpR s a t b (i + 1))]) := by
                        show Sp _ _ _ _
                        rw [HRS.out, List.length_append, rep_len HCK.out]
                        exact HM.out
                      have hlen : (cpR s a t b (i + 1)).length = (cpR s a t b i).length + m * e := by rw [HRS.out, List.length_append, rep_len HCK.out]
                      go_wp2
                      go_roundw
                      case rel => exact ⟨i + 1, ao', c', by omega, by go_num, HJ⟩
                      case measure => simp [RowKit.intOf] <;> omega
                · have hge3 : ¬ ((i : Int) < an) := by omega
                  obtain rfl : i = an := by omega
                  have hsp := HO.out
                  rw [← HR.out.1, ← HR.out.2] at hsp
                  have h7 := hsp.arrOf (i := 3) (j := 5) rfl (by decide) rfl
                  have H7_ := h7
                  try simp only [List.cons_append, List.nil_append, List.set_cons_zero, List.set_cons_succ, List.map_cons, List.map_nil, List.getD_cons_zero, List.getD_cons_succ, World.size_alloc] at H7_
                  have H7 := Lib.hid H7_
                  clear H7_
                  have x2 := H7.out.cell (i := 2) rfl 0 _ rfl
                  have x3 := H7.out.cell (i := 2) rfl 1 _ rfl
                  have y0 := H7.out.cell (i := 4) rfl 0 _ rfl
                  have y1 := H7.out.cell (i := 4) rfl 1 _ rfl
                  have f2 := H7.out.frozen (i := 2) rfl 0
                  have f3 := H7.out.frozen (i := 2) rfl 1
                  have HF : Hid (∀ u v, MadeE w S A 0 (.returned (.tuple #[.agg #[.slice so sl sd, .slice ao A.length c], .int .i64 0])) ((wr.setCell ⟨b2 + 1 + 1, 0, none⟩ u).setCell ⟨b2 + 1 + 1, 1, none⟩ v)) := fun u v => ((H7.out.put (i := 2) rfl 0 u).put (i := 2) rfl 1 v).madeE (i := 5) (B := ⟨so, sl, sd, ao, A.length, c, S, A⟩) rfl 0
                  clear hsp h7 H7
                  go_wp2
                  exact bodyPost_ret (v := .tuple #[.agg #[.slice so sl sd, .slice ao A.length c], .int .i64 0]) (by simp [results, Try.results50, go_sem, *]) rfl (HF.out _ _)
            · have hE0 : E = 17 := by rw [HEE.out.1, HNN.out, HTT.out]; simp [hm]
              have r2 : S = [] := by rw [HEE.out.2.1, hE0]; rfl
              have r3 : A = [] := by rw [HEE.out.2.2, hE0]; rfl
              subst hE0 r2 r3
              obtain ⟨me, he⟩ : ∃ z, z = mayE (T :: t.tail) := ⟨_, rfl⟩
              rw [← he] at CM hm
              have q0 : (me != 0) = true := by simpa using hm
              have x2 := H5.out.cell (i := 2) rfl 0 _ rfl
              have x3 := H5.out.cell (i := 2) rfl 1 _ rfl
              have f2 := H5.out.frozen (i := 2) rfl 0
              have f3 := H5.out.frozen (i := 2) rfl 1
              have HF : Hid (∀ u v, MadeE w [] [] 17 (.returned (.tuple #[.agg #[.slice none 0 0, .slice none 0 0], .int .i64 17])) ((w7.setCell ⟨b2 + 1 + 1, 0, none⟩ u).setCell ⟨b2 + 1 + 1, 1, none⟩ v)) := fun u v => made_nil 17 ((H5.out.put (i := 2) rfl 0 u).put (i := 2) rfl 1 v).belowN
              clear he hm HEE H5
              go_wp2_with fail
              refine CM.out.mono ?_; rintro e' w' ⟨rfl, hw'⟩
              have hw'' := hw'.symm
              subst hw''
              go_wp2
              exact bodyPost_ret (v := .tuple #[.agg #[.slice none 0 0, .slice none 0 0], .int .i64 17]) (by simp [results, Try.results50, go_sem, *]) rfl (HF.out _ _)
  · rw [hn] at CC1
    have r1 : E = 10 := by rw [HEE.out.1, hn]; rfl
    have r2 : S = [] := by rw [HEE.out.2.1, r1]; rfl
    have r3 : A = [] := by rw [HEE.out.2.2, r1]; rfl
    subst r1 r2 r3
    have HF : Hid (∀ q u v, MadeE w [] [] 10 (.returned (.tuple #[.agg #[.slice none 0 0, .slice none 0 0], .int .i64 10])) (((W.drewN q).setCell ⟨b2 + 1 + 1, 0, none⟩ u).setCell ⟨b2 + 1 + 1, 1, none⟩ v)) := fun q u v => made_nil 10 (((H1.out.via (adrew W q)).put (i := 2) rfl 0 u).put (i := 2) rfl 1 v).belowN
    have x2 := H1.out.cell (i := 2) rfl 0 _ rfl
    have x3 := H1.out.cell (i := 2) rfl 1 _ rfl
    have f2 := H1.out.frozen (i := 2) rfl 0
    have f3 := H1.out.frozen (i := 2) rfl 1
    clear hn
    go_enter Try.func50, Try.ntmps50
    go_wp2_with fail
    rw [HW.out, HB2.out]
    go_step3
    go_wp2_with fail
    go_quiet (fail)
    go_wp2_with fail
    refine (CC1.out _).mono ?_; rintro e w' ⟨rfl, hw'⟩
    have hw'' := hw'.symm
    subst hw''
    go_wp2
    exact bodyPost_ret (v := .tuple #[.agg #[.slice none 0 0, .slice none 0 0], .int .i64 10]) (by simp [results, Try.results50, go_sem, *]) rfl (HF.out _ _ _)
set_option maxRecDepth 100000 in
set_option maxHeartbeats 6400000 in
theorem copies_3 {w : World} {X Y : Ar} (hX : X.Is w) (hY : Y.Is w) (h1 : X.sn = 1) (hmy : amE Y.s Y.a = 0) (hxn : X.an ≤ 4096)
    (h2 : 0 < Y.sn) (h5 : (X.an : Int) = Y.s.getD 0 0)
    : Calls Try.prog 50 #[X.v, Y.v] w (MadeE w (cpS X.s X.a Y.s) (cpA X.s X.a Y.s Y.a) (cpE X.s X.a Y.s)) := by
  obtain ⟨sa, sn, sc, aa, an, ac, s, a⟩ := X
  obtain ⟨ta, tn, tc, ba, bn, bc, t, b⟩ := Y
  simp only [Ar.v]
  simp only at h1 h2 hxn hmy
  simp only at h5
  have hsl : s.length = sn := hX.shp.len
  have htl : t.length = tn := hY.shp.len
  have hal : a.length = an := hX.ats.len
  have hbl : b.length = bn := hY.ats.len
  obtain ⟨hmt, hpt⟩ := amE_zero hmy
  have ht8 := (mayE_zero hmt).2.1
  subst h1
  have hmm : t.getD 0 0 = (an : Int) := h5.symm
  have hit : itE t b = (an : Int) := by
    unfold itE
    rw [if_pos hmy]
    rw [if_neg (by omega), hmm]
  have hN : cpN a t = an := by
    unfold cpN
    rw [if_neg (by omega), hmm, Int.toNat_natCast]
  have hNb : (an : Int) ≤ 4096 := by
    have q1 := (pm_up t 0).2.2
    have q2 := pm_all t 1
    have q3 := (mayE_zero hmt).2.2
    rw [hmm, Nat.zero_add] at q1
    omega
  have htn8 : tn ≤ 8 := by omega
  have hq0 : ((tn : Int) == 0) = false := by simp; omega
  have hq1 : (tn == 0) = false := by simp; omega
  have hq2 : (0 : Int) < tn := by omega
  have ht0 : ∃ b3 o3, ta = some ⟨b3, o3, none⟩ ∧ w.cell? ⟨b3, o3, none⟩ = some (.int .i64 an) := by
    obtain ⟨b3, o3, e3, hc3⟩ := hY.shp.at (by simp only; omega)
    have h := hc3 0 (by simp only; omega)
    simp only [Nat.add_zero] at h e3
    rw [hmm] at h
    exact ⟨b3, o3, e3, h⟩
  have HBN : Hid ((bn : Int) = an * pr t.tail) := by
    show _ = _
    obtain ⟨x, r, e⟩ := List.exists_cons_of_ne_nil (l := t) (fun h => by rw [h] at htl; simp at htl; omega)
    have hx : t.getD 0 0 = x := by rw [e]; rfl
    rw [← hbl, ← hpt, e, pr_cons, List.tail_cons, ← hmm, hx]
  have hnw : ¬ cpW s a t := by
    rintro ⟨q1, q2, q3⟩
    omega
  obtain ⟨E, HE⟩ : ∃ z, Hid (cpE s a t = z) := ⟨_, rfl⟩
  obtain ⟨S, HS⟩ : ∃ z, Hid (cpS s a t = z) := ⟨_, rfl⟩
  obtain ⟨A, HA⟩ : ∃ z, Hid (cpA s a t b = z) := ⟨_, rfl⟩
  rw [HE.out, HS.out, HA.out]
  have eE : E = if a.any (fun k => decide (k < 0)) then 10 else if mayE (cpT s a t :: t.tail) = 0 then 0 else 17 := by rw [← HE.out, cpE, if_neg hnw]
  have eS : S = if E = 0 then cpT s a t :: t.tail else [] := by rw [← HS.out, cpS, HE.out]
  have eA : A = if E = 0 then cpR s a t b (cpN a t) else [] := by rw [← HA.out, cpA, HE.out]
  rw [hN] at eA
  have HEE := Lib.hid (And.intro eE (And.intro eS eA))
  obtain ⟨W, HW⟩ : ∃ z, Hid (((w.alloc (.cells #[.slice sa 1 sc, .slice aa an ac] 38)).alloc (.cells #[.slice ta tn tc, .slice ba bn bc] 38)).alloc (.cells #[.slice none 0 0, .slice none 0 0] 38) = z) := ⟨_, rfl⟩
  have H0 := (((Sp.start Non w).alloc 38 2 1 #[.slice sa 1 sc, .slice aa an ac] rfl (by decide)).alloc 38 2 1 #[.slice ta tn tc, .slice ba bn bc] rfl (by decide)).alloc 38 2 1 #[.slice none 0 0, .slice none 0 0] rfl (by decide)
  rw [HW.out] at H0
  obtain ⟨b2, HB2⟩ : ∃ z, Hid (w.heap.size = z) := ⟨_, rfl⟩
  have HQ_ := H0
  try simp only [List.cons_append, List.nil_append, List.set_cons_zero, List.set_cons_succ, List.map_cons, List.map_nil, List.getD_cons_zero, List.getD_cons_succ, World.size_alloc] at HQ_
  have HQ := Lib.hid HQ_
  clear HQ_
  rw [HB2.out] at HQ
  have H1 : Hid (Sp Non w W (cpB b2 sa 1 sc aa an ac ta tn tc ba bn bc)) := HQ
  clear HQ
  have HX := Lib.hid hX
  have HY := Lib.hid hY
  have HN := Lib.hid (And.intro hN (And.intro hal (And.intro hbl (And.intro hsl htl))))
  have HMT := Lib.hid (And.intro hmt hpt)
  have CC0 := containsneg_c (hX.ats.below H1.out.belowN (Nat.le_refl _))
  have CI0 := fun q => items_any (hY.below (H1.out.via (adrew W q)).belowN (Nat.le_refl _))
  simp only [Ar.v] at CC0 CI0
  rw [hit] at CI0
  have CI := Lib.hid CI0
  have x0 := H1.out.cell (i := 0) rfl 0 _ rfl
  have x1 := H1.out.cell (i := 0) rfl 1 _ rfl
  have y0 := H1.out.cell (i := 1) rfl 0 _ rfl
  have y1 := H1.out.cell (i := 1) rfl 1 _ rfl
  obtain ⟨b3, o3, rfl, ht1⟩ := ht0
  have ht2 : W.cell? ⟨b3, o3, none⟩ = some (.int .i64 an) := (H1.out.belowN.cell (p := ⟨b3, o3, none⟩) (World.block_lt_of_cell? w _ ht1)).trans ht1
  have CC1 := Lib.hid (fun q => containsneg_c ((HX.out.ats.below (H1.out.via (adrew W q)).belowN (Nat.le_refl _))))
  simp only at CC1
  clear hX hY H0 hsl htl hal hbl hmt hpt hmy hit hN hnw eE eS eA HE HS HA CC0 CI0
  clear hmm h5 ht1
  cases hn : a.any (fun k => decide (k < 0))
  · rw [hn] at CC1
    have HNN := Lib.hid hn
    clear hn
    go_enter Try.func50, Try.ntmps50
    go_wp2_with fail
    rw [HW.out, HB2.out]
    go_step3
    go_wp2_with fail
    go_quiet (fail)
    go_wp2_with fail
    refine (CC1.out _).mono ?_; rintro e w' ⟨rfl, hw'⟩
    have hw'' := hw'.symm
    subst hw''
    clear hw'
    go_wp2_with fail
    refine (CI.out _).mono ?_; rintro e w5 ⟨rfl, hb5⟩
    have H3 : Hid (Sp Non w w5 (cpB b2 sa 1 sc aa an ac (some ⟨b3, o3, none⟩) tn tc ba bn bc)) := (H1.out.via (adrew W _)).via hb5
    clear hb5 CC1 CI H1 x0 x1 y0 y1
    clear ht2
    have x0 := H3.out.cell (i := 0) rfl 0 _ rfl
    have x1 := H3.out.cell (i := 0) rfl 1 _ rfl
    have y0 := H3.out.cell (i := 1) rfl 0 _ rfl
    have y1 := H3.out.cell (i := 1) rfl 1 _ rfl
    go_upto_if 57 with fail
    go_cut [8] from 57 to 60 (fun v8 wx => ∃ (ro : Option Addr) (rc : Nat), v8 = .slice ro (tn - 1) rc ∧ wx = w5 ∧ Hid (Ls w5 ro (tn - 1) rc t.tail))
    case first =>
      have hsh := (HY.out.below H3.out.belowN (Nat.le_refl _)).shp
      simp only at hsh
      have hcut := ls_cutI hsh 1 (tn - 1) (by omega)
      have htt : (t.drop 1).take (tn - 1) = t.tail := by
        rw [List.drop_one, List.take_of_length_le (by rw [List.length_tail, HN.out.2.2.2.2]; exact Nat.le_refl _)]
      rw [htt] at hcut
      have HCUT := Lib.hid hcut
      have hcap := hsh.cap
      have z1 : (1 : Int) ≤ tn := by omega
      have z2 : (tn : Int) ≤ tc := by omega
      clear hsh hcut htt
      have hc1 : (0 : Int) < tc := by omega
      by_cases htc : tc = 1
      · have HC := HCUT.out
        rw [if_pos htc, show tc - 1 = 0 by omega] at HC
        have HC2 := Lib.hid HC
        clear HC
        go_wp2_with fail
        go_meet
        exact ⟨_, _, rfl, rfl, HC2⟩
      · have HC := HCUT.out
        rw [if_neg htc] at HC
        have HC2 := Lib.hid HC
        have htc2 : ¬ tc - 1 = 0 := by omega
        clear HC
        go_wp2_with fail
        go_meet
        exact ⟨_, _, rfl, rfl, HC2⟩
    case rest =>
      obtain ⟨ro, rc, rfl, rfl, HRO⟩ := hcut
      have hmr : mayE t.tail = 0 := by
        have h := mayE_app (s := t.take 1) (t := t.drop 1) (by rw [List.take_append_drop]; exact HMT.out.1)
        rw [← List.drop_one]; exact h.2
      have hrl : t.tail.length = (tn - 1) := by rw [List.length_tail, HN.out.2.2.2.2]
      have hpr := pr_nonneg hmr
      have HMR := Lib.hid hmr
      have HRL := Lib.hid hrl
      have hmf : ∀ (fn : Fn) (first cap : Array Value) (w : World), (Instr.makeFunc fn first cap).run Try.prog w = .ok (.func fn first cap) w := fun _ _ _ _ => rfl
      obtain ⟨e, HEP⟩ : ∃ e : Nat, Hid (pr t.tail = e) := ⟨(pr t.tail).toNat, (Int.toNat_of_nonneg hpr.1).symm⟩
      have heb : e ≤ 4096 := by have := HEP.out; omega
      clear hmr hrl hpr y0 y1
      go_wp2_with fail
      go_loopw [9, 63] (fun v9 v63 wr => ∃ (j : Nat) (p : Int), j ≤ (tn - 1) ∧ v63 = .int .i64 j ∧ v9 = .int .i64 p ∧ 0 ≤ p ∧ p ≤ 4096 ∧ wr = wc ∧ Hid (p = pr (t.tail.take j))) (fun _ v63 _ => (tn - 1) - (RowKit.intOf v63).toNat)
      case atStart => exact ⟨0, 1, by omega, rfl, rfl, by omega, by omega, rfl, rfl⟩
      case round =>
        obtain ⟨j, p, hj, rfl, rfl, hp0, hp1, rfl, HP⟩ := hrel
        by_cases hlt : j < (tn - 1)
        · have hlt' : (j : Int) < (tn - 1) := by omega
          obtain ⟨g1, o1, e1, hc1⟩ := HRO.out.at (by omega)
          subst e1
          have d1 := hc1 j hlt
          have hst := pr_snoc (s := t.tail) (k := j) (by rw [HRL.out]; exact hlt)
          have hb1 := pr_le t.tail (mayE_zero HMR.out).1 (j + 1)
          have hb2 := pm_all t.tail (j + 1)
          have hb3 := (mayE_zero HMR.out).2.2
          rw [← HP.out] at hst
          rw [hst] at hb1
          obtain ⟨x, HX2⟩ : ∃ z, Hid (t.tail.getD j 0 = z) := ⟨_, rfl⟩
          rw [HX2.out] at d1 hst hb1
          obtain ⟨q, HQ⟩ : ∃ z, Hid (p * x = z) := ⟨_, rfl⟩
          rw [HQ.out] at hst hb1
          have hqb : 0 ≤ q ∧ q ≤ 4096 := by omega
          have z1 : IntKind.i64.wrap (p * x) = q := by rw [HQ.out]; exact IntWalk.i64_in _ (by omega)
          have HP2 := Lib.hid hst.symm
          clear hc1 hst hb1 hb2 hb3
          go_wp2
          go_roundw
          case rel => exact ⟨j + 1, q, by omega, by go_num, rfl, by omega, by omega, trivial, HP2⟩
          case measure => simp [RowKit.intOf] <;> omega
        · have hge : ¬ ((j : Int) < (tn - 1)) := by omega
          obtain rfl : j = (tn - 1) := by omega
          obtain rfl : p = (e : Int) := by
            have h := HP.out
            rw [List.take_of_length_le (by rw [HRL.out]; exact Nat.le_refl _)] at h
            exact h.trans HEP.out
          have HW0 := Lib.hid (fun k (hk : k < an) => how_any (s := s) (a := a) x0 x1 (HX.out.below H3.out.belowN (Nat.le_refl _)).shp (HX.out.below H3.out.belowN (Nat.le_refl _)).ats k (by first | (simp; done) | (simp; omega)))
          obtain ⟨T, HTT⟩ : ∃ z, Hid (cpT s a t = z) := ⟨_, rfl⟩
          have hTT : T = if cpU s a an ≤ 4096 then cpU s a an else 4097 := by rw [← HTT.out, cpT, HN.out.1]
          have HT2 := Lib.hid hTT
          clear hTT HP
          go_wp2_with fail
          go_step3
          go_upto_block 2 with fail
          go_cut [12, 14] from 73 to 87 (fun v12 v14 wx => v12 = .int .i64 T ∧ wx = wr)
          case first =>
            go_wp2_with fail
            go_loopw [12, 73] (fun v12 v73 wx => ∃ (k u : Nat), k ≤ an ∧ v73 = .int .i64 k ∧ v12 = .int .i64 u ∧ u ≤ 4096 ∧ wx = wr ∧ Hid (cpU s a k = u)) (fun _ v73 _ => an - (RowKit.intOf v73).toNat)
            case atStart => exact ⟨0, 0, by omega, rfl, rfl, by omega, rfl, rfl⟩
            case round =>
              obtain ⟨k, u, hk, rfl, rfl, hu, rfl, HU⟩ := hrel
              by_cases hlt2 : k < an
              · have hlt' : (k : Int) < an := by omega
                have HW1 := Lib.hid (HW0.out k hlt2)
                have hpk := pk_nonneg (s := s) HNN.out k
                have hnx : cpU s a (k + 1) = cpU s a k + pkV s a k := rfl
                have hmo := (cpU_mono (s := s) HNN.out (k + 1) (an - (k + 1))).2
                rw [show k + 1 + (an - (k + 1)) = an by omega] at hmo
                rw [HU.out] at hnx
                obtain ⟨x, HXX⟩ : ∃ x : Nat, Hid (pkV s a k = x) := ⟨(pkV s a k).toNat, (Int.toNat_of_nonneg hpk).symm⟩
                rw [HXX.out] at HW1 hnx
                by_cases hbk : 4096 - u < x
                · have hbk' : (4096 : Int) - u < x := by omega
                  have hT : T = 4097 := by rw [HT2.out, if_neg (by omega)]
                  subst hT
                  clear hnx hmo hpk hbk
                  go_wp2_with fail
                  refine HW1.out.mono ?_; rintro e' w' ⟨rfl, hw'⟩
                  have hw'' := hw'.symm
                  subst hw''
                  clear hw'
                  go_wp2_with fail
                  go_meet
                  exact ⟨rfl, rfl⟩
                · have hbk' : ¬ ((4096 : Int) - u < x) := by omega
                  have HU2 : Hid (cpU s a (k + 1) = ((u + x : Nat) : Int)) := by show _ = _; rw [hnx]; push_cast; rfl
                  have hux : u + x ≤ 4096 := by omega
                  have hux2 : (u : Int) + x ≤ 4096 := by omega
                  clear hnx hmo hpk
                  go_wp2_with fail
                  refine HW1.out.mono ?_; rintro e' w' ⟨rfl, hw'⟩
                  have hw'' := hw'.symm
                  subst hw''
                  clear hw'
                  go_wp2_with fail
                  refine HW1.out.mono ?_; rintro e' w' ⟨rfl, hw'⟩
                  have hw'' := hw'.symm
                  subst hw''
                  clear hw'
                  go_wp2
                  go_roundw
                  case rel => exact ⟨k + 1, u + x, by omega, by go_num, by go_num, hux, trivial, HU2⟩
                  case measure => simp [RowKit.intOf] <;> omega
              · have hge2 : ¬ ((k : Int) < an) := by omega
                obtain rfl : k = an := by omega
                have hT : T = (u : Int) := by rw [HT2.out, HU.out, if_pos (by omega)]
                subst hT
                go_wp2_with fail
                go_meet
                exact ⟨rfl, rfl⟩
          case rest =>
            obtain ⟨rfl, rfl⟩ := hcut
            obtain ⟨U, hU⟩ : ∃ z : World, z = wc := ⟨_, rfl⟩
            subst hU
            have hu0 := (cpU_mono (s := s) HNN.out an 0).1
            have hTb : 0 ≤ T ∧ T ≤ 4097 := by
              rw [HT2.out]
              split <;> omega
            have h4 := ((H3.out.alloc 3 1 1 #[.int .i64 T] rfl (by decide)).toInts (i := 3) (zs := [T]) rfl (by omega) (rng_one (by omega))).alloc 25 1 2 #[.slice (some ⟨U.heap.size, 0, none⟩) 1 1, .slice ro (tn - 1) rc] rfl (by decide)
            have ct := (concat_two (h4.rlt (i := 4) rfl).1 (h4.cell (i := 4) rfl 0 _ rfl) (h4.cell (i := 4) rfl 1 _ rfl) (h4.ls (i := 3) rfl) ((HRO.out.via (abal U _)).via (abal _ _)) (by omega) (by omega))
            simp only [World.size_alloc, List.singleton_append] at ct
            have CT := Lib.hid ct
            simp only [cpB] at h4
            have H4_ := h4
            try simp only [List.cons_append, List.nil_append, List.set_cons_zero, List.set_cons_succ, List.map_cons, List.map_nil, List.getD_cons_zero, List.getD_cons_succ, World.size_alloc] at H4_
            have H4 := Lib.hid H4_
            clear H4_
            clear hu0 h4 ct
            go_wp2_with fail
            refine CT.out.mono ?_; rintro e' w7 ⟨so, sl, sd, rfl, hL7, hO7, hB7⟩
            have H5_ := (H4.out.intsNew hO7 hB7 hL7.big hL7.rng).pick [0, 1, 2, 5] (by decide)
            try simp only [List.cons_append, List.nil_append, List.set_cons_zero, List.set_cons_succ, List.map_cons, List.map_nil, List.getD_cons_zero, List.getD_cons_succ, World.size_alloc] at H5_
            have H5 := Lib.hid H5_
            clear H5_
            have CM := Lib.hid (may_any (H5.out.ls (i := 3) rfl))
            clear hL7 hO7 hB7 H4 CT H3 x0 x1
            by_cases hm : mayE (T :: t.tail) = 0
            · have r1 : E = 0 := by rw [HEE.out.1, HNN.out, HTT.out]; simp [hm]
              have r2 : S = T :: t.tail := by rw [HEE.out.2.1, if_pos r1, HTT.out]
              have r3 : A = cpR s a t b an := by rw [HEE.out.2.2, if_pos r1]
              have HR := Lib.hid (And.intro r2 r3)
              rw [hm] at CM
              have hTe : cpU s a an ≤ 4096 := by
                rcases Int.lt_or_le 4096 (cpU s a an) with h | h
                · have h2 : T = 4097 := by rw [HT2.out, if_neg (by omega)]
                  have h3 := (pm_up (T :: t.tail) 0).2.2
                  have h4 := pm_all (T :: t.tail) 1
                  have h5 := (mayE_zero hm).2.2
                  rw [Nat.zero_add] at h3
                  have h6 : (T :: t.tail).getD 0 0 = T := rfl
                  omega
                · exact h
              subst r1
              clear hm r2 r3 HEE
              go_wp2_with fail
              refine CM.out.mono ?_; rintro e' w' ⟨rfl, hw'⟩
              have hw'' := hw'.symm
              subst hw''
              clear hw' CM
              have h6 := (H5.out.alloc 38 2 1 #[.slice so sl sd, .slice none 0 0] rfl (by decide)).intsNew (E := 2) (zs := []) (World.ownsRow_nil _ _ _ _) (Below.refl _ _) (by omega) (fun i => by simp [List.getD])
              obtain ⟨b16, HB16⟩ : ∃ z, Hid (w7.heap.size = z) := ⟨_, rfl⟩
              have H6_ := h6
              try simp only [List.cons_append, List.nil_append, List.set_cons_zero, List.set_cons_succ, List.map_cons, List.map_nil, List.getD_cons_zero, List.getD_cons_succ, World.size_alloc] at H6_
              have H6 := Lib.hid H6_
              clear H6_
              rw [HB16.out] at H6
              clear h6 H5
              go_wp2_with fail
              rw [HB16.out]
              go_loopw [100] (fun v100 wr => ∃ (i : Nat) (ao : Option Addr) (c : Nat), i ≤ an ∧ v100 = .int .i64 i ∧ Hid (Sp Non w wr [Pt.row ⟨38, 2, some ⟨b2, 0, none⟩, 1, 1, [.slice sa 1 sc, .slice aa an ac]⟩, Pt.row ⟨38, 2, some ⟨b2 + 1, 0, none⟩, 1, 1, [.slice (some ⟨b3, o3, none⟩) tn tc, .slice ba bn bc]⟩, Pt.row ⟨38, 2, some ⟨b2 + 1 + 1, 0, none⟩, 1, 1, [.slice none 0 0, .slice none 0 0]⟩, Pt.ints 3 so sl sd (T :: t.tail), Pt.row ⟨38, 2, some ⟨b16, 0, none⟩, 1, 1, [.slice so sl sd, .slice ao ((cpR s a t b i).length) c]⟩, Pt.ints 2 ao ((cpR s a t b i).length) c (cpR s a t b i)])) (fun v100 _ => an - (RowKit.intOf v100).toNat)
              case atStart => exact ⟨0, none, 0, by omega, rfl, H6⟩
              case round =>
                clear H6
                obtain ⟨i, ao, c, hi, rfl, HO⟩ := hrel
                by_cases hlt3 : i < an
                · have hlt' : (i : Int) < an := by omega
                  have x0 := HO.out.cell (i := 0) rfl 0 _ rfl
                  have x1 := HO.out.cell (i := 0) rfl 1 _ rfl
                  have hw1 := how_any (s := s) (a := a) x0 x1 (HX.out.below HO.out.belowN (Nat.le_refl _)).shp (HX.out.below HO.out.belowN (Nat.le_refl _)).ats i (by first | (simp; done) | (simp; omega))
                  have hpk := pk_nonneg (s := s) HNN.out i
                  have hck : ∀ q, q < cpN a t → (cpK t b q).length = e := fun q hq => by
                    unfold cpK
                    rw [if_neg (by rw [HN.out.2.2.2.2]; omega), HEP.out, Int.toNat_natCast]
                    rw [HN.out.1] at hq
                    refine ckL_len (m := an) ?_ hq
                    have h := HBN.out
                    rw [HEP.out] at h
                    rw [HN.out.2.2.1]
                    exact_mod_cast h
                  have hrl := cpR_len (s := s) (b := b) HNN.out hck i (by rw [HN.out.1]; omega)
                  have hui := (cpU_mono (s := s) HNN.out i (an - i))
                  rw [show i + (an - i) = an by omega] at hui
                  have hrb : (cpR s a t b i).length ≤ 16777216 := by
                    rw [hrl]
                    have h1 := Nat.mul_le_mul (show (cpU s a i).toNat ≤ 4096 by omega) heb
                    omega
                  have hui2 := (cpU_mono (s := s) HNN.out (i + 1) (an - (i + 1)))
                  rw [show i + 1 + (an - (i + 1)) = an by omega] at hui2
                  have hcs : cpU s a (i + 1) = cpU s a i + pkV s a i := rfl
                  obtain ⟨x, HXX⟩ : ∃ x : Nat, Hid (pkV s a i = x) := ⟨(pkV s a i).toNat, (Int.toNat_of_nonneg hpk).symm⟩
                  rw [HXX.out] at hw1 hcs
                  have hxb : x ≤ 4096 := by omega
                  have HW1 := Lib.hid hw1
                  have HCK := Lib.hid (hck i (by rw [HN.out.1]; exact hlt3))
                  have HRS : Hid (cpR s a t b (i + 1) = cpR s a t b i ++ (List.replicate x (cpK t b i)).flatten) := by
                    show _ = _
                    rw [cpR, HXX.out, Int.toNat_natCast]
                  have hmn : min (i : Int) ((an : Int) - 1) = i := by omega
                  clear hw1 hpk hck hrl hui hui2 hcs
                  go_wp2_with fail
                  refine HW1.out.mono ?_; rintro e' w' ⟨rfl, hw'⟩
                  have hw'' := hw'.symm
                  subst hw''
                  clear hw' x0 x1
                  go_wp2_with fail
                  obtain ⟨i0, hi0, hza, hzb, hzc⟩ := info_parts (P := Try.prog) (e := 2) (z := .int .i64 0) (size := 1) (bytes := 8) (by kernel_rfl)
                  go_loopw [110] (fun v110 wx => ∃ (m : Nat) (ao' : Option Addr) (c' : Nat), m ≤ x ∧ v110 = .int .i64 m ∧ Hid (Sp Non w wx [Pt.row ⟨38, 2, some ⟨b2, 0, none⟩, 1, 1, [.slice sa 1 sc, .slice aa an ac]⟩, Pt.row ⟨38, 2, some ⟨b2 + 1, 0, none⟩, 1, 1, [.slice (some ⟨b3, o3, none⟩) tn tc, .slice ba bn bc]⟩, Pt.row ⟨38, 2, some ⟨b2 + 1 + 1, 0, none⟩, 1, 1, [.slice none 0 0, .slice none 0 0]⟩, Pt.ints 3 so sl sd (T :: t.tail), Pt.row ⟨38, 2, some ⟨b16, 0, none⟩, 1, 1, [.slice so sl sd, .slice ao' ((cpR s a t b i).length + m * e) c']⟩, Pt.ints 2 ao' ((cpR s a t b i).length + m * e) c' (cpR s a t b i ++ (List.replicate m (cpK t b i)).flatten)])) (fun v110 _ => x - (RowKit.intOf v110).toNat)
                  case atStart => exact ⟨0, ao, c, by omega, rfl, by simpa using HO⟩
                  case round =>
                    clear HO
                    obtain ⟨m, ao', c', hm4, rfl, HM⟩ := hrel
                    by_cases hlt4 : m < x
                    · have hlt4' : (m : Int) < x := by omega
                      have hme : m * e ≤ 16777216 := by
                        have h1 := Nat.mul_le_mul (show m ≤ 4096 by omega) heb
                        omega
                      have HV := Lib.hid (HM.out.via (adrew1 wr))
                      have y0 := HM.out.cell (i := 1) rfl 1 _ rfl
                      have y1 := HM.out.cell (i := 4) rfl 1 _ rfl
                      have hls := (HY.out.below HV.out.belowN (Nat.le_refl _)).ats
                      simp only at hls
                      have hcap := hls.cap
                      obtain ⟨p, HPP⟩ : ∃ p, Hid (i * e = p) := ⟨_, rfl⟩
                      have hpi : (i : Int) * e = p := by rw [← HPP.out]; push_cast; rfl
                      have hpj : ((i : Int) + 1) * e = p + e := by rw [Int.add_mul, hpi, Int.one_mul]
                      have hpe : p + e ≤ bn := by
                        have h := HBN.out
                        rw [HEP.out] at h
                        have h2 : bn = an * e := by exact_mod_cast h
                        have h3 := Nat.mul_le_mul_right e (show i + 1 ≤ an by omega)
                        rw [Nat.succ_mul, HPP.out, ← h2] at h3
                        exact h3
                      have hbb : bn ≤ 17000000 := by
                        have h := HBN.out
                        rw [HEP.out] at h
                        have h2 : bn = an * e := by exact_mod_cast h
                        have h3 := Nat.mul_le_mul (show an ≤ 4096 by omega) heb
                        omega
                      have z7 : IntKind.i64.wrap ((i : Int) * e) = p := by rw [hpi]; exact IntWalk.i64_in _ (by omega)
                      have z8 : IntKind.i64.wrap (((i : Int) + 1) * e) = p + e := by rw [hpj]; exact IntWalk.i64_in _ (by omega)
                      have hck2 : cpK t b i = (b.drop p).take e := by
                        unfold cpK
                        rw [if_neg (by rw [HN.out.2.2.2.2]; omega), HEP.out, Int.toNat_natCast]
                        unfold ckL
                        rw [HPP.out]
                      have z10 : IntKind.i64.wrap ((i : Int) + 1) = (i : Int) + 1 := IntWalk.i64_in _ (by omega)
                      clear hpi hpj
                      rcases (show p = bc ∨ p < bc by omega) with hpc | hpc
                      · obtain rfl : e = 0 := by omega
                        have hp0 : p = 0 := by rw [← HPP.out]; simp
                        obtain rfl : bc = 0 := by omega
                        subst hp0
                        have LSX : Hid (Ls wr.drew ba 0 0 (cpK t b i)) := by
                          show Ls _ _ _ _ _
                          rw [hck2]
                          exact Ls.zero _ _ (Nat.zero_le _)
                        have z9 : IntKind.i64.wrap (0 : Int) = 0 := IntWalk.i64_in _ (by omega)
                        clear hls hck2 hcap
                        have hb1 : (((cpR s a t b i).length + m * 0) + 0) * 8 ≤ 140737488351232 := by omega
                        go_wp2_with fail
                        go_region_law (first
                          | (refine Sp.step_loc HV.out rfl _ _ 28 (by rfl) 2 i0 Try.underlying28 hi0 hza hzb hzc (i := 5) rfl (by rfl) (by rfl) LSX.out hb1 ?_; intro b9 d9 w9 h9; have q1 := h9.cell (i := 4) rfl 1 _ rfl; have q2 := h9.frozen (i := 4) rfl 1))
                        all_goals
                          have H10 : Hid (Sp Non w (w9.setCell ⟨b16, 1, none⟩ (.slice b9 ((cpR s a t b i).length + m * 0 + 0) d9)) [Pt.row ⟨38, 2, some ⟨b2, 0, none⟩, 1, 1, [.slice sa 1 sc, .slice aa an ac]⟩, Pt.row ⟨38, 2, some ⟨b2 + 1, 0, none⟩, 1, 1, [.slice (some ⟨b3, o3, none⟩) tn tc, .slice ba bn 0]⟩, Pt.row ⟨38, 2, some ⟨b2 + 1 + 1, 0, none⟩, 1, 1, [.slice none 0 0, .slice none 0 0]⟩, Pt.ints 3 so sl sd (T :: t.tail), Pt.row ⟨38, 2, some ⟨b16, 0, none⟩, 1, 1, [.slice so sl sd, .slice b9 ((cpR s a t b i).length + (m + 1) * 0) d9]⟩, Pt.ints 2 b9 ((cpR s a t b i).length + (m + 1) * 0) d9 (cpR s a t b i ++ (List.replicate (m + 1) (cpK t b i)).flatten)]) := by
                            show Sp _ _ _ _
                            rw [List.replicate_succ', List.flatten_append, List.flatten_singleton, ← List.append_assoc, show (cpR s a t b i).length + (m + 1) * 0 = (cpR s a t b i).length + m * 0 + 0 by rw [Nat.succ_mul]; omega]
                            exact h9.put (i := 4) rfl 1 (.slice b9 ((cpR s a t b i).length + m * 0 + 0) d9)
                          clear h9 q1 q2
                          go_wp2
                          go_roundw
                          case rel => first | exact ⟨m + 1, b9, d9, by omega, by go_num, H10⟩ | ((repeat apply Exists.intro); exact ⟨⟨m + 1, b9, d9, by omega, by go_num, H10⟩, rfl⟩)
                          case measure => simp [RowKit.intOf] <;> omega
                      · have LSX : Hid (Ls wr.drew (ba.map fun x => x.add p) e (bc - p) (cpK t b i)) := by
                          show Ls _ _ _ _ _
                          rw [hck2]
                          exact hls.cutA p e hpe
                        have k0 : ¬ bc = p := by omega
                        have k1 : (0 : Int) ≤ p := by omega
                        have k2 : (p : Int) ≤ p + e := by omega
                        have k3 : (p : Int) + e ≤ bc := by omega
                        have k5 : ((p : Int) + e).toNat = p + e := by omega
                        have k8 : (p : Int) < bc := by omega
                        have k9 : ¬ bc - p = 0 := by omega
                        have k10 : p + e - p = e := by omega
                        clear hls hck2 hcap
                        have hb1 : (((cpR s a t b i).length + m * e) + e) * 8 ≤ 140737488351232 := by omega
                        go_wp2_with fail
                        go_region_law (first
                          | (refine Sp.step_loc HV.out rfl _ _ 28 (by rfl) 2 i0 Try.underlying28 hi0 hza hzb hzc (i := 5) rfl (by rfl) (by rfl) LSX.out hb1 ?_; intro b9 d9 w9 h9; have q1 := h9.cell (i := 4) rfl 1 _ rfl; have q2 := h9.frozen (i := 4) rfl 1))
                        all_goals
                          have H10 : Hid (Sp Non w (w9.setCell ⟨b16, 1, none⟩ (.slice b9 ((cpR s a t b i).length + m * e + e) d9)) [Pt.row ⟨38, 2, some ⟨b2, 0, none⟩, 1, 1, [.slice sa 1 sc, .slice aa an ac]⟩, Pt.row ⟨38, 2, some ⟨b2 + 1, 0, none⟩, 1, 1, [.slice (some ⟨b3, o3, none⟩) tn tc, .slice ba bn bc]⟩, Pt.row ⟨38, 2, some ⟨b2 + 1 + 1, 0, none⟩, 1, 1, [.slice none 0 0, .slice none 0 0]⟩, Pt.ints 3 so sl sd (T :: t.tail), Pt.row ⟨38, 2, some ⟨b16, 0, none⟩, 1, 1, [.slice so sl sd, .slice b9 ((cpR s a t b i).length + (m + 1) * e) d9]⟩, Pt.ints 2 b9 ((cpR s a t b i).length + (m + 1) * e) d9 (cpR s a t b i ++ (List.replicate (m + 1) (cpK t b i)).flatten)]) := by
                            show Sp _ _ _ _
                            rw [List.replicate_succ', List.flatten_append, List.flatten_singleton, ← List.append_assoc, show (cpR s a t b i).length + (m + 1) * e = (cpR s a t b i).length + m * e + e by rw [Nat.succ_mul]; omega]
                            exact h9.put (i := 4) rfl 1 (.slice b9 ((cpR s a t b i).length + m * e + e) d9)
                          clear h9 q1 q2
                          go_wp2
                          go_roundw
                          case rel => exact ⟨m + 1, b9, d9, by omega, by go_num, H10⟩
                          case measure => simp [RowKit.intOf] <;> omega
                    · have hge4 : ¬ ((m : Int) < x) := by omega
                      obtain rfl : m = x := by omega
                      have HJ : Hid (Sp Non w wr [Pt.row ⟨38, 2, some ⟨b2, 0, none⟩, 1, 1, [.slice sa 1 sc, .slice aa an ac]⟩, Pt.row ⟨38, 2, some ⟨b2 + 1, 0, none⟩, 1, 1, [.slice (some ⟨b3, o3, none⟩) tn tc, .slice ba bn bc]⟩, Pt.row ⟨38, 2, some ⟨b2 + 1 + 1, 0, none⟩, 1, 1, [.slice none 0 0, .slice none 0 0]⟩, Pt.ints 3 so sl sd (T :: t.tail), Pt.row ⟨38, 2, some ⟨b16, 0, none⟩, 1, 1, [.slice so sl sd, .slice ao' ((cpR s a t b (i + 1)).length) c']⟩, Pt.ints 2 ao' ((cpR s a t b (i + 1)).length) c' (cpR s a t b (i + 1))]) := by
                        show Sp _ _ _ _
                        rw [HRS.out, List.length_append, rep_len HCK.out]
                        exact HM.out
                      have hlen : (cpR s a t b (i + 1)).length = (cpR s a t b i).length + m * e := by rw [HRS.out, List.length_append, rep_len HCK.out]
                      go_wp2
                      go_roundw
                      case rel => exact ⟨i + 1, ao', c', by omega, by go_num, HJ⟩
                      case measure => simp [RowKit.intOf] <;> omega
                · have hge3 : ¬ ((i : Int) < an) := by omega
                  obtain rfl : i = an := by omega
                  have hsp := HO.out
                  rw [← HR.out.1, ← HR.out.2] at hsp
                  have h7 := hsp.arrOf (i := 3) (j := 5) rfl (by decide) rfl
                  have H7_ := h7
                  try simp only [List.cons_append, List.nil_append, List.set_cons_zero, List.set_cons_succ, List.map_cons, List.map_nil, List.getD_cons_zero, List.getD_cons_succ, World.size_alloc] at H7_
                  have H7 := Lib.hid H7_
                  clear H7_
                  have x2 := H7.out.cell (i := 2) rfl 0 _ rfl
                  have x3 := H7.out.cell (i := 2) rfl 1 _ rfl
                  have y0 := H7.out.cell (i := 4) rfl 0 _ rfl
                  have y1 := H7.out.cell (i := 4) rfl 1 _ rfl
                  have f2 := H7.out.frozen (i := 2) rfl 0
                  have f3 := H7.out.frozen (i := 2) rfl 1
                  have HF : Hid (∀ u v, MadeE w S A 0 (.returned (.tuple #[.agg #[.slice so sl sd, .slice ao A.length c], .int .i64 0])) ((wr.setCell ⟨b2 + 1 + 1, 0, none⟩ u).setCell ⟨b2 + 1 + 1, 1, none⟩ v)) := fun u v => ((H7.out.put (i := 2) rfl 0 u).put (i := 2) rfl 1 v).madeE (i := 5) (B := ⟨so, sl, sd, ao, A.length, c, S, A⟩) rfl 0
                  clear hsp h7 H7
                  go_wp2
                  exact bodyPost_ret (v := .tuple #[.agg #[.slice so sl sd, .slice ao A.length c], .int .i64 0]) (by simp [results, Try.results50, go_sem, *]) rfl (HF.out _ _)
            · have hE0 : E = 17 := by rw [HEE.out.1, HNN.out, HTT.out]; simp [hm]
              have r2 : S = [] := by rw [HEE.out.2.1, hE0]; rfl
              have r3 : A = [] := by rw [HEE.out.2.2, hE0]; rfl
              subst hE0 r2 r3
              obtain ⟨me, he⟩ : ∃ z, z = mayE (T :: t.tail) := ⟨_, rfl⟩
              rw [← he] at CM hm
              have q0 : (me != 0) = true := by simpa using hm
              have x2 := H5.out.cell (i := 2) rfl 0 _ rfl
              have x3 := H5.out.cell (i := 2) rfl 1 _ rfl
              have f2 := H5.out.frozen (i := 2) rfl 0
              have f3 := H5.out.frozen (i := 2) rfl 1
              have HF : Hid (∀ u v, MadeE w [] [] 17 (.returned (.tuple #[.agg #[.slice none 0 0, .slice none 0 0], .int .i64 17])) ((w7.setCell ⟨b2 + 1 + 1, 0, none⟩ u).setCell ⟨b2 + 1 + 1, 1, none⟩ v)) := fun u v => made_nil 17 ((H5.out.put (i := 2) rfl 0 u).put (i := 2) rfl 1 v).belowN
              clear he hm HEE H5
              go_wp2_with fail
              refine CM.out.mono ?_; rintro e' w' ⟨rfl, hw'⟩
              have hw'' := hw'.symm
              subst hw''
              go_wp2
              exact bodyPost_ret (v := .tuple #[.agg #[.slice none 0 0, .slice none 0 0], .int .i64 17]) (by simp [results, Try.results50, go_sem, *]) rfl (HF.out _ _)
  · rw [hn] at CC1
    have r1 : E = 10 := by rw [HEE.out.1, hn]; rfl
    have r2 : S = [] := by rw [HEE.out.2.1, r1]; rfl
    have r3 : A = [] := by rw [HEE.out.2.2, r1]; rfl
    subst r1 r2 r3
    have HF : Hid (∀ q u v, MadeE w [] [] 10 (.returned (.tuple #[.agg #[.slice none 0 0, .slice none 0 0], .int .i64 10])) (((W.drewN q).setCell ⟨b2 + 1 + 1, 0, none⟩ u).setCell ⟨b2 + 1 + 1, 1, none⟩ v)) := fun q u v => made_nil 10 (((H1.out.via (adrew W q)).put (i := 2) rfl 0 u).put (i := 2) rfl 1 v).belowN
    have x2 := H1.out.cell (i := 2) rfl 0 _ rfl
    have x3 := H1.out.cell (i := 2) rfl 1 _ rfl
    have f2 := H1.out.frozen (i := 2) rfl 0
    have f3 := H1.out.frozen (i := 2) rfl 1
    clear hn
    go_enter Try.func50, Try.ntmps50
    go_wp2_with fail
    rw [HW.out, HB2.out]
    go_step3
    go_wp2_with fail
    go_quiet (fail)
    go_wp2_with fail
    refine (CC1.out _).mono ?_; rintro e w' ⟨rfl, hw'⟩
    have hw'' := hw'.symm
    subst hw''
    go_wp2
    exact bodyPost_ret (v := .tuple #[.agg #[.slice none 0 0, .slice none 0 0], .int .i64 10]) (by simp [results, Try.results50, go_sem, *]) rfl (HF.out _ _ _)
end Go.Proofs.Ytoippfoeghjdoaa

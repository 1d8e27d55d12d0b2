/- Contracts of shape.All, what it hands back, and abacuslaw2.walks. -/
import Derived.Test.YtdmlldghelpijaaShapeRef
namespace Go.Proofs.Ytdmlldghelpijaa
open Go.RowKit Go.Lib
set_option linter.unusedVariables false
set_option linter.unusedSimpArgs false
attribute [local go_sem] alloc_drewN setCell_drewN

/-- The state that All's answer keeps: the number of places, and the shape. -/
structure SeqAt (W : World) (bn bs : Nat) (so : Option Addr) (sn sc : Nat) (s : List Int) : Prop where
  cn : W.cell? ⟨bn, 0, none⟩ = some (.int .i64 (szE s))
  cs : W.cell? ⟨bs, 0, none⟩ = some (.slice so sn sc)
  ls : Ls W so sn sc s
  ln : bn < W.heap.size
  lb : bs < W.heap.size
theorem SeqAt.below {W W' : World} {bn bs : Nat} {so : Option Addr} {sn sc : Nat} {s : List Int} (h : SeqAt W bn bs so sn sc s) (hb : Below W.heap.size W W') : SeqAt W' bn bs so sn sc s :=
  ⟨(hb.cell (p := ⟨bn, 0, none⟩) h.ln).trans h.cn, (hb.cell (p := ⟨bs, 0, none⟩) h.lb).trans h.cs, h.ls.below hb (Nat.le_refl _), Nat.lt_of_lt_of_le h.ln hb.size, Nat.lt_of_lt_of_le h.lb hb.size⟩
def seqV (bn bs : Nat) : Value := .func (.func 69) #[] #[.pointer (some ⟨bn, 0, none⟩), .pointer (some ⟨bs, 0, none⟩)]
/-- The call hands back a sequence of a shape's places. -/
def MadeSeq (w : World) (s : List Int) (e : Ending) (w' : World) : Prop :=
  ∃ bn bs so sn sc, e = .returned (seqV bn bs) ∧ SeqAt w' bn bs so sn sc s ∧ w.heap.size ≤ bn ∧ w.heap.size ≤ bs ∧ w'.ownsRow w.heap.size 3 1 (.slice so sn sc) sn (s.map (Value.int .i64)) ∧ Below w.heap.size w w'
set_option maxRecDepth 100000 in
set_option maxHeartbeats 400000 in
theorem all_any {w : World} {ao : Option Addr} {n c : Nat} {s : List Int} (h : Ls w ao n c s) :
    Calls Try.prog 27 #[.slice ao n c] w (MadeSeq w s) := by
  have CZ := Lib.hid (size_any h)
  have hb1 : Below w.heap.size w (w.alloc (.cells #[.int .i64 (szE s)] 3)) := (Below.refl _ _).alloc (Nat.le_refl _) _
  have CC := Lib.hid (clone_any (h.below hb1 (Nat.le_refl _)))
  have hmf : ∀ (fn : Fn) (first cap : Array Value) (w : World), (Instr.makeFunc fn first cap).run Try.prog w = .ok (.func fn first cap) w := fun _ _ _ _ => rfl
  clear h
  go_enter Try.func27, Try.ntmps27
  go_wp2_with fail
  refine CZ.out.mono ?_; rintro e w1 ⟨rfl, hw⟩
  have hw' := hw.symm
  subst hw'
  go_wp2_with fail
  refine CC.out.mono ?_; rintro e w2 ⟨so, sc, rfl, hL, hO, hB⟩
  have hsz : w.heap.size + 1 ≤ w2.heap.size := by have := hB.size; simpa using this
  have HF : Hid (MadeSeq w s (.returned (seqV w.heap.size w2.heap.size)) (w2.alloc (.cells #[.slice so n sc] 25))) := by
    have hal : ∀ o, Below w2.heap.size w2 (w2.alloc o) := fun o => (Below.refl _ _).alloc (Nat.le_refl _) _
    refine ⟨w.heap.size, w2.heap.size, so, n, sc, rfl, ⟨?_, ?_, hL.below (hal _) (Nat.le_refl _), ?_, ?_⟩, Nat.le_refl _, by omega, own_mono (hO.alloc _) (by simp), hb1.trans ((hB.mono (by simp)).alloc (by omega) _)⟩
    · rw [(hal _).cell (p := ⟨w.heap.size, 0, none⟩) (by dsimp only; omega), hB.cell (p := ⟨w.heap.size, 0, none⟩) (by simp)]
      simp [go_sem]
    · simp [go_sem]
    · simp; omega
    · simp
  clear hL hO hB hsz hb1
  go_wp2
  go_ret
  exact HF.out
theorem own_pos {w : World} {base : Nat} {E : TypeId} {ao : Option Addr} {n c : Nat} {xs : List Value} (h : w.ownsRow base E 1 (.slice ao n c) n xs) (h0 : 0 < n) : ∃ g, ao = some ⟨g, 0, none⟩ := by
  rcases h.2 with ⟨e, rfl⟩ | ⟨g, cap, cur, e, _⟩
  · omega
  · cases e; exact ⟨g, rfl⟩
/-- The state of a walk over the places: how many are wanted, whether all was well, how many there were; the row at hand. -/
structure WkS (w0 W : World) (want i : Int) (ok : Bool) : Prop where
  below : Below w0.heap.size w0 W
  c0 : W.cell? ⟨w0.heap.size, 0, none⟩ = some (.int .i64 want)
  c1 : W.cell? ⟨w0.heap.size + 1, 0, none⟩ = some (.bool ok)
  c2 : W.cell? ⟨w0.heap.size + 2, 0, none⟩ = some (.int .i64 i)
  f1 : W.frozen? ⟨w0.heap.size + 1, 0, none⟩ = false
  f2 : W.frozen? ⟨w0.heap.size + 2, 0, none⟩ = false
  lt : w0.heap.size + 3 ≤ W.heap.size
theorem WkS.next {w0 W W' : World} {want i : Int} {ok : Bool} (h : WkS w0 W want i ok) {B : Nat} (hb : Below B W W') (hB : w0.heap.size + 3 ≤ B) : WkS w0 W' want i ok :=
  ⟨h.below.trans (hb.mono (by omega)), (hb.cell (p := ⟨w0.heap.size, 0, none⟩) (by dsimp only; omega)).trans h.c0, (hb.cell (p := ⟨w0.heap.size + 1, 0, none⟩) (by dsimp only; omega)).trans h.c1, (hb.cell (p := ⟨w0.heap.size + 2, 0, none⟩) (by dsimp only; omega)).trans h.c2,
    (hb.frozen (p := ⟨w0.heap.size + 1, 0, none⟩) (by dsimp only; omega)).trans h.f1, (hb.frozen (p := ⟨w0.heap.size + 2, 0, none⟩) (by dsimp only; omega)).trans h.f2, by have := hb.size; have := h.lt; omega⟩
theorem WkS.drew {w0 W : World} {want i : Int} {ok : Bool} (h : WkS w0 W want i ok) (m : Nat) : WkS w0 (W.drewN m) want i ok :=
  ⟨below_drewN h.below m, h.c0, h.c1, h.c2, h.f1, h.f2, h.lt⟩
theorem WkS.setOk {w0 W : World} {want i : Int} {ok : Bool} (h : WkS w0 W want i ok) (b : Bool) : WkS w0 (W.setCell ⟨w0.heap.size + 1, 0, none⟩ (.bool b)) want i b := by
  refine ⟨h.below.setCell (by dsimp only; omega) _, ?_, World.cell?_setCell_same _ _ _ h.c1, ?_, ?_, ?_, by simpa using h.lt⟩
  · rw [World.cell?_setCell_far _ _ _ _ (by dsimp only; omega)]; exact h.c0
  · rw [World.cell?_setCell_far _ _ _ _ (by dsimp only; omega)]; exact h.c2
  · rw [World.frozen?_setCell]; exact h.f1
  · rw [World.frozen?_setCell]; exact h.f2
theorem WkS.setI {w0 W : World} {want i : Int} {ok : Bool} (h : WkS w0 W want i ok) (j : Int) : WkS w0 (W.setCell ⟨w0.heap.size + 2, 0, none⟩ (.int .i64 j)) want j ok := by
  refine ⟨h.below.setCell (by dsimp only; omega) _, ?_, ?_, World.cell?_setCell_same _ _ _ h.c2, ?_, ?_, by simpa using h.lt⟩
  · rw [World.cell?_setCell_far _ _ _ _ (by dsimp only; omega)]; exact h.c0
  · rw [World.cell?_setCell_far _ _ _ _ (by dsimp only; omega)]; exact h.c1
  · rw [World.frozen?_setCell]; exact h.f1
  · rw [World.frozen?_setCell]; exact h.f2
theorem WkS.setFar {w0 W : World} {want i : Int} {ok : Bool} (h : WkS w0 W want i ok) {g k : Nat} (hg : w0.heap.size + 3 ≤ g) (v : Value) : WkS w0 (W.setCell ⟨g, k, none⟩ v) want i ok := by
  refine ⟨h.below.setCell (by dsimp only; omega) _, ?_, ?_, ?_, ?_, ?_, by simpa using h.lt⟩
  · rw [World.cell?_setCell_far _ _ _ _ (by dsimp only; omega)]; exact h.c0
  · rw [World.cell?_setCell_far _ _ _ _ (by dsimp only; omega)]; exact h.c1
  · rw [World.cell?_setCell_far _ _ _ _ (by dsimp only; omega)]; exact h.c2
  · rw [World.frozen?_setCell]; exact h.f1
  · rw [World.frozen?_setCell]; exact h.f2
set_option maxRecDepth 100000 in
set_option maxHeartbeats 800000 in
theorem wk1_any {w0 W : World} {b0 : Nat} {so : Option Addr} {sn sc : Nat} {s : List Int} (hS : Ls w0 so sn sc s) (hb0 : w0.cell? ⟨b0, 0, none⟩ = some (.slice so sn sc)) (hl0 : b0 < w0.heap.size) (hm : mayE s = 0)
    {want k : Nat} (hW : WkS w0 W want k true) (hk : (k : Int) < pr s) (hkw : k < want) (hwb : want ≤ 1000000) {ao : Option Addr} {n c : Nat} {BO : Nat} (hA : Ls W ao n c (ixL s k)) (hO : W.ownsRow BO 3 1 (.slice ao n c) n ((ixL s k).map (Value.int .i64))) (hBO : w0.heap.size + 3 ≤ BO) :
    Calls Try.prog 67 #[.int .i64 k, .slice ao n c, .pointer (some ⟨b0, 0, none⟩), .pointer (some ⟨w0.heap.size + 2, 0, none⟩), .pointer (some ⟨w0.heap.size + 1, 0, none⟩), .pointer (some ⟨w0.heap.size, 0, none⟩)] W
      (fun e w' => e = .returned (.bool (decide (k + 1 < want))) ∧ WkS w0 w' want (k + 1 : Nat) true) := by
  have CA := Lib.hid (rat_any (hS.below hW.below (Nat.le_refl _)) k)
  rw [show atL s k = ixL s k by simp [atL, hm, hk], show atE s k = 0 by simp [atE, hm, hk]] at CA
  have r0 := (hW.below.cell (p := ⟨b0, 0, none⟩) hl0).trans hb0
  have r1 := hW.c2
  obtain ⟨D, HD⟩ : ∃ D, Hid (decide (k + 1 < want) = D) := ⟨_, rfl⟩
  rw [HD.out]
  have hD2 : decide ((k : Int) + 1 < want) = D := by rw [← HD.out]; apply decide_eq_decide.2; omega
  have HDD := Lib.hid hD2
  have HWS := Lib.hid hW
  have HA := Lib.hid hA
  have HO := Lib.hid hO
  have hkw' : (k : Int) < want := by omega
  have hxl := ixL_len s k
  clear hS hb0 hl0 hm hW hk hA hO hD2
  go_enter Try.func67, Try.ntmps67
  go_wp2_with fail
  refine CA.out.mono ?_; rintro e w1 ⟨xo, xn, xc, rfl, hL, hXO, hB⟩
  have HS1 := Lib.hid (HWS.out.next hB HWS.out.lt)
  have HA1 := Lib.hid (HA.out.below hB (Nat.le_refl _))
  have HO1 := Lib.hid (own_below HO.out hB (Nat.le_refl _))
  have CE := Lib.hid (eqints_any HA1.out hL)
  simp only [decide_true] at CE
  have q0 := HS1.out.c0
  have q1 := HS1.out.c1
  have q2 := HS1.out.c2
  have q3 := HS1.out.f1
  clear hL hXO hB r0 r1
  go_wp2_with fail
  refine CE.out.mono ?_; rintro e w2 ⟨rfl, dn, rfl⟩
  have HS2 := Lib.hid ((HS1.out.drew dn).setOk true)
  have HO2 : Hid (((w1.drewN dn).setCell ⟨w0.heap.size + 1, 0, none⟩ (.bool true)).ownsRow BO 3 1 (.slice ao n c) n ((ixL s k).map (Value.int .i64))) :=
    ownsRow_setCell_below (own_below (w := w1) HO1.out (below_drewN (Below.refl _ _) dn) (Nat.le_refl _)) (by dsimp only; omega) _
  have hnl : n ≤ 1000000000000000 := by have := HA1.out.big; omega
  have hL0 : (ixL s k).map (Value.int .i64) = (ixL s k).map (Value.int .i64) := rfl
  clear q0 q1 q2 q3 CE CA
  have p1 := HS1.out.c1
  have p2 := HS1.out.f1
  have p3 := HS1.out.c0
  have p4 := HS1.out.c2
  go_wp2_with fail
  go_loopw [11] (fun j wr => ∃ q : Nat, q ≤ n ∧ j = .int .i64 q ∧ Hid (WkS w0 wr want k true) ∧ ∃ L : List Int, Hid (wr.ownsRow BO 3 1 (.slice ao n c) n (L.map (Value.int .i64)))) (fun j _ => n - (RowKit.intOf j).toNat)
  case atStart => exact ⟨0, Nat.zero_le _, rfl, HS2, _, HO2⟩
  case round =>
    obtain ⟨q, hq, rfl, HR, L, HL⟩ := hrel
    by_cases hlt : q < n
    · have hlt' : (q : Int) < n := by omega
      obtain ⟨g, rfl⟩ := own_pos HL.out (by omega)
      have hg := (own_block HL.out (g := g) rfl).1
      have d1 : ∃ v, wr.cell? ⟨g, q, none⟩ = some v := by
        rw [HL.out.cellAt q (by omega)]
        exact ⟨_, List.getElem?_eq_getElem (by have := HL.out.1; rw [this]; omega)⟩
      obtain ⟨v0, d1⟩ := d1
      have d2 := HL.out.frozenAt q
      have HL2 := Lib.hid ((HL.out.stored q (.int .i64 (-5))).1)
      rw [← List.map_set] at HL2
      have HR2 := Lib.hid (HR.out.setFar (g := g) (k := q) (by omega) (.int .i64 (-5)))
      go_wp2
      go_roundw
      case rel => exact ⟨q + 1, by omega, by go_num, HR2, _, HL2⟩
      case measure => simp [RowKit.intOf]; omega
    · obtain rfl : q = n := by omega
      have hge : (q : Int) ≤ q := Int.le_refl _
      clear p1 p2 p3 p4
      have p1 := HR.out.c2
      have p2 := HR.out.f2
      have p3 := HR.out.c0
      have HR2 := Lib.hid (HR.out.setI (k + 1))
      have y1 : IntKind.i64.wrap ((k : Int) + 1) = k + 1 := IntWalk.i64_in _ (by omega)
      have hd := HDD.out
      have p5 := HR2.out.c2
      have p6 := HR2.out.c0
      go_wp2
      go_ret
      exact ⟨congrArg (fun b => Ending.returned (.bool b)) (by first | rfl | exact hd | simp), by simpa using HR2.out⟩
def wkV (b0 B : Nat) : Value := .func (.func 67) #[] #[.pointer (some ⟨b0, 0, none⟩), .pointer (some ⟨B + 2, 0, none⟩), .pointer (some ⟨B + 1, 0, none⟩), .pointer (some ⟨B, 0, none⟩)]
theorem szE_pos {s : List Int} {N : Nat} (h : szE s = N) (h0 : 0 < N) : mayE s = 0 ∧ pr s = N := by
  unfold szE at h
  split at h
  · exact ⟨by assumption, h⟩
  · omega
set_option maxRecDepth 100000 in
set_option maxHeartbeats 800000 in
theorem seqwalk_any {w0 W : World} {b0 : Nat} {so : Option Addr} {sn sc : Nat} {s : List Int} (hS : Ls w0 so sn sc s) (hb0 : w0.cell? ⟨b0, 0, none⟩ = some (.slice so sn sc)) (hl0 : b0 < w0.heap.size)
    {bn bs : Nat} {so' : Option Addr} {sn' sc' : Nat} (hQ : SeqAt w0 bn bs so' sn' sc' s) {want N : Nat} (hN : szE s = N) (hwN : want ≤ N) (hw0 : 0 < N → 0 < want) (hW : WkS w0 W want 0 true) :
    Calls Try.prog 69 #[wkV b0 w0.heap.size, .pointer (some ⟨bn, 0, none⟩), .pointer (some ⟨bs, 0, none⟩)] W
      (fun e w' => e = .returned (.tuple #[]) ∧ WkS w0 w' want want true) := by
  have hNb : N ≤ 4096 := by have := szE_bd s; omega
  have HQ := Lib.hid hQ
  have HN := Lib.hid hN
  have HW := Lib.hid hW
  have r0 := (hQ.below hW.below).cn
  rw [hN] at r0
  have K : Hid (∀ (k : Nat), k < N → k < want → ∀ W', WkS w0 W' want k true → ∀ ao n c BO, Ls W' ao n c (ixL s k) → W'.ownsRow BO 3 1 (.slice ao n c) n ((ixL s k).map (Value.int .i64)) → w0.heap.size + 3 ≤ BO →
      Calls Try.prog 67 #[.int .i64 k, .slice ao n c, .pointer (some ⟨b0, 0, none⟩), .pointer (some ⟨w0.heap.size + 2, 0, none⟩), .pointer (some ⟨w0.heap.size + 1, 0, none⟩), .pointer (some ⟨w0.heap.size, 0, none⟩)] W'
      (fun e w' => e = .returned (.bool (decide (k + 1 < want))) ∧ WkS w0 w' want (k + 1 : Nat) true)) := by
    intro k hk hkw W' hWk ao n c BO hA hO hBO
    obtain ⟨h1, h2⟩ := szE_pos hN (by omega)
    exact wk1_any hS hb0 hl0 h1 hWk (by omega) hkw (by omega) hA hO hBO
  have J : Hid (∀ (k : Nat), k < N → ∀ W', WkS w0 W' want k true → Calls Try.prog 65 #[.slice so' sn' sc', .int .i64 k] W' (MadeL W' (ixL s k))) := by
    intro k hk W' hWk
    obtain ⟨h1, h2⟩ := szE_pos hN (by omega)
    obtain ⟨g1, g2, g3⟩ := mayE_zero h1
    have hl := (hQ.below hWk.below).ls
    exact indices_any hl k (by omega) (by have := hl.len; omega) (pos_all g1 (by omega))
  clear hS hb0 hl0 hQ hN hW
  simp only [wkV]
  go_enter Try.func69, Try.ntmps69
  go_wp2_with fail
  go_loopw [6] (fun i wr => ∃ k : Nat, k ≤ N ∧ i = .int .i64 k ∧ Hid (WkS w0 wr want k true) ∧ (k < want ∨ N = 0)) (fun i _ => N - (RowKit.intOf i).toNat)
  case atStart => exact ⟨0, Nat.zero_le _, rfl, HW, by omega⟩
  case round =>
    obtain ⟨k, hk, rfl, HK, hkw⟩ := hrel
    by_cases hlt : k < N
    · have hlt' : (k : Int) < N := by omega
      have hkw' : k < want := by omega
      have r1 := (HQ.out.below HK.out.below).cs
      go_wp2_with fail
      refine (J.out k hlt wr HK.out).mono ?_; rintro e w1 ⟨ao, n, c, rfl, hL, hO, hB⟩
      have HK1 := Lib.hid (HK.out.next hB HK.out.lt)
      have HC := Lib.hid (K.out k hlt hkw' w1 HK1.out ao n c wr.heap.size hL hO HK.out.lt)
      clear hL hO hB r1
      go_wp2_with fail
      refine HC.out.mono ?_; rintro e w2 ⟨rfl, hK2⟩
      have HK2 := Lib.hid hK2
      clear hK2
      by_cases hend : k + 1 < want
      · have hd : decide (k + 1 < want) = true := by simpa using hend
        rw [hd]
        go_wp2
        go_roundw
        case rel => exact ⟨k + 1, by omega, by go_num, HK2, .inl hend⟩
        case measure => simp [RowKit.intOf]; omega
      · have hd : decide (k + 1 < want) = false := by simpa using hend
        rw [hd]
        have HF : Hid (WkS w0 w2 want want true) := by have h := HK2.out; rw [show k + 1 = want by omega] at h; exact h
        go_wp2
        (try simp only [Exit.inBlock, Exit.then])
        refine bodyPost_ret (results_none rfl _ _ _) rfl ?_
        exact ⟨rfl, HF.out⟩
    · obtain rfl : k = N := by omega
      have hge : (k : Int) ≤ k := Int.le_refl _
      obtain rfl : k = 0 := by omega
      obtain rfl : want = 0 := by omega
      go_wp2
      go_end0
      exact ⟨rfl, HK.out⟩
theorem run_equalIn_func_nil {P : Program} (w : World) (d : Nat) (t : TypeId) (fn : Fn) (first cap : Array Value) {ps rs : Array TypeId} {v : Bool} (h : P.underlying t = some (.func ps rs v)) :
    (Op.equalIn (d + 1) t (.func fn first cap) .nilFunc).run P w = .ok false w := by
  simp [Op.equalIn, run_underlying h]
theorem eql_func_nil (fn : Fn) (first cap : Array Value) (w : World) : (binOp .eql 56 (.func fn first cap) .nilFunc).run Try.prog w = .ok (.bool false) w := by
  simp only [binOp]
  simp [Op.equal, Op.maxDepth, run_equalIn_func_nil w 9999 56 fn first cap Try.underlying56]
theorem wks_new {w W : World} {want : Int} (h : W = ((((w.alloc (.cells #[.int .i64 want] 3)).alloc (.cells #[.bool true] 4))).alloc (.cells #[.int .i64 0] 3))) : WkS w W want 0 true := by
  subst h
  refine ⟨(((Below.refl _ _).alloc (Nat.le_refl _) _).alloc (by simp) _).alloc (by simp; omega) _, ?_, ?_, ?_, ?_, ?_, by simp⟩ <;> simp [go_sem]
set_option maxRecDepth 100000 in
set_option maxHeartbeats 800000 in
theorem walks_a {w : World} {so : Option Addr} {sn sc : Nat} {s : List Int} (hS : Ls w so sn sc s) {bn bs : Nat} {so' : Option Addr} {sn' sc' : Nat} (hQ : SeqAt w bn bs so' sn' sc' s) (n : Int) (hc : mayE s ≠ 0) :
    Calls Try.prog 26 #[seqV bn bs, .slice so sn sc, .int .i64 n] w (RetB w (.bool true)) := by
  obtain ⟨w0, HW0⟩ : ∃ w0, Hid (w.alloc (.cells #[.slice so sn sc] 25) = w0) := ⟨_, rfl⟩
  have hb : Below w.heap.size w w0 := by rw [← HW0.out]; exact (Below.refl _ _).alloc (Nat.le_refl _) _
  have hs0 : w0.heap.size = w.heap.size + 1 := by rw [← HW0.out]; simp
  have r0 : w0.cell? ⟨w.heap.size, 0, none⟩ = some (.slice so sn sc) := by rw [← HW0.out]; simp [go_sem]
  have CM := Lib.hid (rmay_any (hS.below hb (Nat.le_refl _)))
  have hQ0 := hQ.below hb
  have hS0 := hS.below hb (Nat.le_refl _)
  have hmf : ∀ (fn : Fn) (first cap : Array Value) (w : World), (Instr.makeFunc fn first cap).run Try.prog w = .ok (.func fn first cap) w := fun _ _ _ _ => rfl
  obtain ⟨e, HE⟩ : ∃ e, Hid (mayE s = e) := ⟨_, rfl⟩
  rw [HE.out] at CM
  have he : (e == 0) = false := by rw [← HE.out]; simpa using hc
  have SQ := Lib.hid (fun W (hW : WkS w0 W 0 0 true) => seqwalk_any (want := 0) (N := 0) hS0 r0 (by omega) hQ0 (by simp [szE, hc]) (Nat.le_refl _) (by omega) hW)
  have HB := Lib.hid hb
  have HS0 := Lib.hid hs0
  clear hS hQ hQ0 hS0 hb hs0
  have hnf := fun (fn : Fn) (first cap : Array Value) (w : World) => eql_func_nil fn first cap w
  simp only [seqV, wkV] at *
  go_enter Try.func26, Try.ntmps26
  go_wp2_with fail
  rw [HW0.out]
  refine CM.out.mono ?_; rintro e' w1 ⟨rfl, hw1⟩
  have hw1' := hw1.symm
  subst hw1'
  go_wp2_with fail
  all_goals
    refine (SQ.out _ (wks_new rfl)).mono ?_; rintro e' w2 ⟨rfl, hW2⟩
    have q0 := hW2.c0
    have q1 := hW2.c1
    have q2 : w2.cell? ⟨w0.heap.size + 1 + 1, 0, none⟩ = _ := hW2.c2
    have HF : Hid (Below w.heap.size w w2) := HB.out.trans (hW2.below.mono HB.out.size)
    clear hW2
    go_wp2
    go_ret
    exact RetB.mk (boolv (by first | rfl | simp)) HF.out
set_option maxRecDepth 100000 in
set_option maxHeartbeats 800000 in
theorem walks_b {w : World} {so : Option Addr} {sn sc : Nat} {s : List Int} (hS : Ls w so sn sc s) {bn bs : Nat} {so' : Option Addr} {sn' sc' : Nat} (hQ : SeqAt w bn bs so' sn' sc' s) (n : Int) (hc : mayE s = 0 ∧ 0 < n ∧ n < pr s) :
    Calls Try.prog 26 #[seqV bn bs, .slice so sn sc, .int .i64 n] w (RetB w (.bool true)) := by
  obtain ⟨w0, HW0⟩ : ∃ w0, Hid (w.alloc (.cells #[.slice so sn sc] 25) = w0) := ⟨_, rfl⟩
  have hb : Below w.heap.size w w0 := by rw [← HW0.out]; exact (Below.refl _ _).alloc (Nat.le_refl _) _
  have hs0 : w0.heap.size = w.heap.size + 1 := by rw [← HW0.out]; simp
  have r0 : w0.cell? ⟨w.heap.size, 0, none⟩ = some (.slice so sn sc) := by rw [← HW0.out]; simp [go_sem]
  have CM := Lib.hid (rmay_any (hS.below hb (Nat.le_refl _)))
  have hQ0 := hQ.below hb
  have hS0 := hS.below hb (Nat.le_refl _)
  have hmf : ∀ (fn : Fn) (first cap : Array Value) (w : World), (Instr.makeFunc fn first cap).run Try.prog w = .ok (.func fn first cap) w := fun _ _ _ _ => rfl
  have CC := Lib.hid (rcount_any hS0 hc.1)
  obtain ⟨N, hN⟩ : ∃ N : Nat, szE s = N := by have := szE_bd s; exact ⟨(szE s).toNat, by omega⟩
  have hp : pr s = N := by have h := hN; unfold szE at h; rw [if_pos hc.1] at h; exact h
  rw [hc.1] at CM
  rw [hp] at CC hc
  obtain ⟨-, hn1, hn2⟩ := hc
  obtain ⟨k, rfl⟩ := Int.eq_ofNat_of_zero_le (show 0 ≤ n by omega)
  have SQ := Lib.hid (fun W (hW : WkS w0 W k 0 true) => seqwalk_any (want := k) (N := N) hS0 r0 (by omega) hQ0 hN (by omega) (by omega) hW)
  have HB := Lib.hid hb
  have HS0 := Lib.hid hs0
  clear hS hQ hQ0 hS0 hb hs0
  have hnf := fun (fn : Fn) (first cap : Array Value) (w : World) => eql_func_nil fn first cap w
  simp only [seqV, wkV] at *
  go_enter Try.func26, Try.ntmps26
  go_wp2_with fail
  rw [HW0.out]
  refine CM.out.mono ?_; rintro e' w1 ⟨rfl, hw1⟩
  have hw1' := hw1.symm
  subst hw1'
  go_wp2_with fail
  refine CC.out.mono ?_; rintro e' w1 ⟨rfl, hw1⟩
  have hw1' := hw1.symm
  subst hw1'
  go_wp2_with fail
  all_goals
    refine (SQ.out _ (wks_new rfl)).mono ?_; rintro e' w2 ⟨rfl, hW2⟩
    have q0 := hW2.c0
    have q1 := hW2.c1
    have q2 : w2.cell? ⟨w0.heap.size + 1 + 1, 0, none⟩ = _ := hW2.c2
    have HF : Hid (Below w.heap.size w w2) := HB.out.trans (hW2.below.mono HB.out.size)
    clear hW2
    go_wp2
    go_ret
    exact RetB.mk (boolv (by first | rfl | simp)) HF.out
set_option maxRecDepth 100000 in
set_option maxHeartbeats 800000 in
theorem walks_c {w : World} {so : Option Addr} {sn sc : Nat} {s : List Int} (hS : Ls w so sn sc s) {bn bs : Nat} {so' : Option Addr} {sn' sc' : Nat} (hQ : SeqAt w bn bs so' sn' sc' s) (n : Int) (hc : mayE s = 0 ∧ ¬ (0 < n ∧ n < pr s)) :
    Calls Try.prog 26 #[seqV bn bs, .slice so sn sc, .int .i64 n] w (RetB w (.bool true)) := by
  obtain ⟨w0, HW0⟩ : ∃ w0, Hid (w.alloc (.cells #[.slice so sn sc] 25) = w0) := ⟨_, rfl⟩
  have hb : Below w.heap.size w w0 := by rw [← HW0.out]; exact (Below.refl _ _).alloc (Nat.le_refl _) _
  have hs0 : w0.heap.size = w.heap.size + 1 := by rw [← HW0.out]; simp
  have r0 : w0.cell? ⟨w.heap.size, 0, none⟩ = some (.slice so sn sc) := by rw [← HW0.out]; simp [go_sem]
  have CM := Lib.hid (rmay_any (hS.below hb (Nat.le_refl _)))
  have hQ0 := hQ.below hb
  have hS0 := hS.below hb (Nat.le_refl _)
  have hmf : ∀ (fn : Fn) (first cap : Array Value) (w : World), (Instr.makeFunc fn first cap).run Try.prog w = .ok (.func fn first cap) w := fun _ _ _ _ => rfl
  have CC := Lib.hid (rcount_any hS0 hc.1)
  obtain ⟨N, hN⟩ : ∃ N : Nat, szE s = N := by have := szE_bd s; exact ⟨(szE s).toNat, by omega⟩
  have hp : pr s = N := by have h := hN; unfold szE at h; rw [if_pos hc.1] at h; exact h
  rw [hc.1] at CM
  rw [hp] at CC hc
  obtain ⟨-, hn⟩ := hc
  have SQ := Lib.hid (fun W (hW : WkS w0 W N 0 true) => seqwalk_any (want := N) (N := N) hS0 r0 (by omega) hQ0 hN (Nat.le_refl _) (fun h => h) hW)
  have HB := Lib.hid hb
  have HS0 := Lib.hid hs0
  clear hS hQ hQ0 hS0 hb hs0
  have hnf := fun (fn : Fn) (first cap : Array Value) (w : World) => eql_func_nil fn first cap w
  simp only [seqV, wkV] at *
  go_enter Try.func26, Try.ntmps26
  go_wp2_with fail
  rw [HW0.out]
  refine CM.out.mono ?_; rintro e' w1 ⟨rfl, hw1⟩
  have hw1' := hw1.symm
  subst hw1'
  go_wp2_with fail
  refine CC.out.mono ?_; rintro e' w1 ⟨rfl, hw1⟩
  have hw1' := hw1.symm
  subst hw1'
  go_wp2_with fail
  all_goals
    refine (SQ.out _ (wks_new rfl)).mono ?_; rintro e' w2 ⟨rfl, hW2⟩
    have q0 := hW2.c0
    have q1 := hW2.c1
    have q2 : w2.cell? ⟨w0.heap.size + 1 + 1, 0, none⟩ = _ := hW2.c2
    have HF : Hid (Below w.heap.size w w2) := HB.out.trans (hW2.below.mono HB.out.size)
    clear hW2
    go_wp2
    go_ret
    exact RetB.mk (boolv (by first | rfl | simp)) HF.out
theorem walks_any {w : World} {so : Option Addr} {sn sc : Nat} {s : List Int} (hS : Ls w so sn sc s) {bn bs : Nat} {so' : Option Addr} {sn' sc' : Nat} (hQ : SeqAt w bn bs so' sn' sc' s) (n : Int) :
    Calls Try.prog 26 #[seqV bn bs, .slice so sn sc, .int .i64 n] w (RetB w (.bool true)) := by
  by_cases h1 : mayE s = 0
  · by_cases h2 : 0 < n ∧ n < pr s
    · exact walks_b hS hQ n ⟨h1, h2.1, h2.2⟩
    · exact walks_c hS hQ n ⟨h1, h2⟩
  · exact walks_a hS hQ n h1
end Go.Proofs.Ytdmlldghelpijaa

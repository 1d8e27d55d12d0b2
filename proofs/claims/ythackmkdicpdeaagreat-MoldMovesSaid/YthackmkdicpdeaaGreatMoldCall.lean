/- Contracts of mold.Has, Monad and Dyad, by the row of the verb. -/
import Derived.Test.YthackmkdicpdeaaGreatMoldFind
namespace Go.Proofs.YthackmkdicpdeaaGreat
open Go.RowKit Go.Lib
set_option linter.unusedVariables false
set_option linter.unusedSimpArgs false
attribute [local go_sem] alloc_drewN setCell_drewN
theorem run_equalIn_nil_nil {P : Program} (w : World) (d : Nat) (t : TypeId) {ps rs : Array TypeId} {v : Bool} (h : P.underlying t = some (.func ps rs v)) : (Op.equalIn (d + 1) t .nilFunc .nilFunc).run P w = .ok true w := by
  simp [Op.equalIn, run_underlying h]
theorem run_equalIn_fn_nil {P : Program} (w : World) (d : Nat) (t : TypeId) (fn : Fn) (first cap : Array Value) {ps rs : Array TypeId} {v : Bool} (h : P.underlying t = some (.func ps rs v)) :
    (Op.equalIn (d + 1) t (.func fn first cap) .nilFunc).run P w = .ok false w := by
  simp [Op.equalIn, run_underlying h]
theorem eql_fn_m (fn : Fn) (first cap : Array Value) (w : World) : (binOp .eql 88 (.func fn first cap) .nilFunc).run Tryz.prog w = .ok (.bool false) w := by
  simp only [binOp]
  simp [Op.equal, Op.maxDepth, run_equalIn_fn_nil w 9999 88 fn first cap Tryz.underlying88]
theorem eql_nil_m (w : World) : (binOp .eql 88 .nilFunc .nilFunc).run Tryz.prog w = .ok (.bool true) w := by
  simp only [binOp]
  simp [Op.equal, Op.maxDepth, run_equalIn_nil_nil w 9999 88 Tryz.underlying88]
theorem neq_fn_m (fn : Fn) (first cap : Array Value) (w : World) : (binOp .neq 88 (.func fn first cap) .nilFunc).run Tryz.prog w = .ok (.bool true) w := by
  simp only [binOp]
  simp [Op.equal, Op.maxDepth, run_equalIn_fn_nil w 9999 88 fn first cap Tryz.underlying88]
theorem neq_nil_m (w : World) : (binOp .neq 88 .nilFunc .nilFunc).run Tryz.prog w = .ok (.bool false) w := by
  simp only [binOp]
  simp [Op.equal, Op.maxDepth, run_equalIn_nil_nil w 9999 88 Tryz.underlying88]
theorem eql_fn_d (fn : Fn) (first cap : Array Value) (w : World) : (binOp .eql 89 (.func fn first cap) .nilFunc).run Tryz.prog w = .ok (.bool false) w := by
  simp only [binOp]
  simp [Op.equal, Op.maxDepth, run_equalIn_fn_nil w 9999 89 fn first cap Tryz.underlying89]
theorem eql_nil_d (w : World) : (binOp .eql 89 .nilFunc .nilFunc).run Tryz.prog w = .ok (.bool true) w := by
  simp only [binOp]
  simp [Op.equal, Op.maxDepth, run_equalIn_nil_nil w 9999 89 Tryz.underlying89]
theorem neq_fn_d (fn : Fn) (first cap : Array Value) (w : World) : (binOp .neq 89 (.func fn first cap) .nilFunc).run Tryz.prog w = .ok (.bool true) w := by
  simp only [binOp]
  simp [Op.equal, Op.maxDepth, run_equalIn_fn_nil w 9999 89 fn first cap Tryz.underlying89]
theorem neq_nil_d (w : World) : (binOp .neq 89 .nilFunc .nilFunc).run Tryz.prog w = .ok (.bool false) w := by
  simp only [binOp]
  simp [Op.equal, Op.maxDepth, run_equalIn_nil_nil w 9999 89 Tryz.underlying89]
attribute [local go_sem] eql_fn_m eql_fn_d eql_nil_m eql_nil_d neq_fn_m neq_fn_d neq_nil_m neq_nil_d
set_option maxRecDepth 100000 in
set_option maxHeartbeats 3200000 in
theorem mmonad_arg {w : World} {Y : Ar} (hY : Y.Is w) {op : Int} (hm : amE Y.s Y.a ≠ 0) : Calls Tryz.prog 23 #[.int .i64 op, Y.v] w (MadeE w [] [] 1) := by
  obtain ⟨ta, tn, tc, ba, bn, bc, t, b⟩ := Y
  simp only [Ar.v]
  obtain ⟨W, HW⟩ : ∃ z, Hid ((w.alloc (.cells #[.slice ta tn tc, .slice ba bn bc] 38)).alloc (.cells #[.slice none 0 0, .slice none 0 0] 38) = z) := ⟨_, rfl⟩
  have h0 := ((Sp.start Non w).alloc 38 2 1 #[.slice ta tn tc, .slice ba bn bc] rfl (by decide)).alloc 38 2 1 #[.slice none 0 0, .slice none 0 0] rfl (by decide)
  rw [HW.out] at h0
  have H1_ := h0
  try simp only [List.cons_append, List.nil_append, List.set_cons_zero, List.set_cons_succ, List.map_cons, List.map_nil, List.getD_cons_zero, List.getD_cons_succ, World.size_alloc] at H1_
  have H1 := Lib.hid H1_
  clear H1_
  have HY := Lib.hid hY
  have CF : Hid (Calls Tryz.prog 48 #[.int .i64 op] W (fun e w' => Below W.heap.size W w' ∧ ∃ r : Int × Value × Value × Bool, fnOr r.2.1 ∧ fnOr r.2.2.1 ∧ ∃ ok : Bool, e = .returned (.tuple #[rwV r, .bool ok]))) := (find_any op W).mono fun e w' h => by
    obtain ⟨hb, ⟨i, hi, hio, rfl⟩ | ⟨hno, rfl⟩⟩ := h
    · exact ⟨hb, _, (rowL_fn hi).1, (rowL_fn hi).2, true, rfl⟩
    · exact ⟨hb, rowD, .inl rfl, .inl rfl, false, rfl⟩
  obtain ⟨m, hmm⟩ : ∃ m, m = amE t b := ⟨_, rfl⟩
  simp only at hm
  rw [← hmm] at hm
  have q0 : (m != 0) = true := by simpa using hm
  have HM := Lib.hid hmm.symm
  clear h0 hY hm hmm
  go_enter Tryz.func23, Tryz.ntmps23
  go_wp2_with fail
  rw [HW.out]
  refine CF.out.mono ?_; rintro e w2 ⟨hb2, ⟨o2, r1, r2, r3⟩, n1, n2, ok, rfl⟩
  simp only [rwV]
  simp only at n1 n2
  have h2 := (H1.out.via hb2).alloc 91 4 1 #[.int .i64 o2, r1, r2, .bool r3] rfl (by decide)
  have hI := HY.out.below h2.belowN (Nat.le_refl _)
  have CM := arrmay_any hI
  simp only [Ar.v] at CM
  rw [HM.out] at CM
  have x0 : (w2.alloc (.cells #[.int .i64 o2, r1, r2, .bool r3] 91)).cell? ⟨w.heap.size, 0, none⟩ = some (.slice ta tn tc) := h2.cell (i := 0) rfl 0 _ rfl
  have x1 : (w2.alloc (.cells #[.int .i64 o2, r1, r2, .bool r3] 91)).cell? ⟨w.heap.size, 1, none⟩ = some (.slice ba bn bc) := h2.cell (i := 0) rfl 1 _ rfl
  have CM := Lib.hid CM
  have H2 := Lib.hid h2
  clear h2 hI hb2
  have HQ : Hid True := trivial
  rcases n1 with rfl | ⟨g1, rfl⟩ <;> rcases n2 with rfl | ⟨g2, rfl⟩
  all_goals
    go_wp2_with fail
    refine CM.out.mono ?_; rintro e w3 ⟨rfl, hb3⟩
    have H3_ := H2.out.via hb3
    try simp only [List.cons_append, List.nil_append, List.set_cons_zero, List.set_cons_succ, List.map_cons, List.map_nil, List.getD_cons_zero, List.getD_cons_succ, World.size_alloc] at H3_
    have H3 := Lib.hid H3_
    clear H3_
    clear x0 x1 hb3
    have f0 := H3.out.frozen (i := 1) rfl 0
    have f1 := H3.out.frozen (i := 1) rfl 1
    have y0 := H3.out.cell (i := 1) rfl 0 _ rfl
    have y1 := H3.out.cell (i := 1) rfl 1 _ rfl
    have HF : Hid (∀ u v, MadeE w [] [] 1 (.returned (.tuple #[.agg #[.slice none 0 0, .slice none 0 0], .int .i64 1])) ((w3.setCell ⟨w.heap.size + 1, 0, none⟩ u).setCell ⟨w.heap.size + 1, 1, none⟩ v)) := fun u v =>
      made_nil 1 ((H3.out.put (i := 1) rfl 0 u).put (i := 1) rfl 1 v).belowN
    clear H3
    go_wp2
    exact bodyPost_ret (v := .tuple #[.agg #[.slice none 0 0, .slice none 0 0], .int .i64 1]) (by simp [results, Tryz.results23, go_sem, *]) rfl (HF.out _ _)
set_option maxRecDepth 100000 in
set_option maxHeartbeats 3200000 in
theorem mmonad_no {w : World} {Y : Ar} (hY : Y.Is w) {op : Int} (hm : amE Y.s Y.a = 0) (hno : ∀ j, j < 13 → (rowL.getD j rowD).1 ≠ op) : Calls Tryz.prog 23 #[.int .i64 op, Y.v] w (MadeE w [] [] 1) := by
  obtain ⟨ta, tn, tc, ba, bn, bc, t, b⟩ := Y
  simp only [Ar.v]
  obtain ⟨W, HW⟩ : ∃ z, Hid ((w.alloc (.cells #[.slice ta tn tc, .slice ba bn bc] 38)).alloc (.cells #[.slice none 0 0, .slice none 0 0] 38) = z) := ⟨_, rfl⟩
  have h0 := ((Sp.start Non w).alloc 38 2 1 #[.slice ta tn tc, .slice ba bn bc] rfl (by decide)).alloc 38 2 1 #[.slice none 0 0, .slice none 0 0] rfl (by decide)
  rw [HW.out] at h0
  have H1_ := h0
  try simp only [List.cons_append, List.nil_append, List.set_cons_zero, List.set_cons_succ, List.map_cons, List.map_nil, List.getD_cons_zero, List.getD_cons_succ, World.size_alloc] at H1_
  have H1 := Lib.hid H1_
  clear H1_
  have HY := Lib.hid hY
  have CF := Lib.hid (find_no hno W)
  simp only [rwV, rowD] at CF
  clear hno
  have HM := Lib.hid hm
  clear h0 hY hm 
  go_enter Tryz.func23, Tryz.ntmps23
  go_wp2_with fail
  rw [HW.out]
  refine CF.out.mono ?_; rintro e w2 ⟨rfl, hb2⟩
  have h2 := (H1.out.via hb2).alloc 91 4 1 #[.int .i64 0, .nilFunc, .nilFunc, .bool false] rfl (by decide)
  have hI := HY.out.below h2.belowN (Nat.le_refl _)
  have CM := arrmay_any hI
  simp only [Ar.v] at CM
  rw [HM.out] at CM
  have x0 : (w2.alloc (.cells #[.int .i64 0, .nilFunc, .nilFunc, .bool false] 91)).cell? ⟨w.heap.size, 0, none⟩ = some (.slice ta tn tc) := h2.cell (i := 0) rfl 0 _ rfl
  have x1 : (w2.alloc (.cells #[.int .i64 0, .nilFunc, .nilFunc, .bool false] 91)).cell? ⟨w.heap.size, 1, none⟩ = some (.slice ba bn bc) := h2.cell (i := 0) rfl 1 _ rfl
  have CM := Lib.hid CM
  have H2 := Lib.hid h2
  clear h2 hI hb2
  rcases (Or.inl trivial : True ∨ False) with - | -
  all_goals
    go_wp2_with fail
    refine CM.out.mono ?_; rintro e w3 ⟨rfl, hb3⟩
    have H3_ := H2.out.via hb3
    try simp only [List.cons_append, List.nil_append, List.set_cons_zero, List.set_cons_succ, List.map_cons, List.map_nil, List.getD_cons_zero, List.getD_cons_succ, World.size_alloc] at H3_
    have H3 := Lib.hid H3_
    clear H3_
    clear x0 x1 hb3
    have f0 := H3.out.frozen (i := 1) rfl 0
    have f1 := H3.out.frozen (i := 1) rfl 1
    have y0 := H3.out.cell (i := 1) rfl 0 _ rfl
    have y1 := H3.out.cell (i := 1) rfl 1 _ rfl
    have HF : Hid (∀ u v, MadeE w [] [] 1 (.returned (.tuple #[.agg #[.slice none 0 0, .slice none 0 0], .int .i64 1])) ((w3.setCell ⟨w.heap.size + 1, 0, none⟩ u).setCell ⟨w.heap.size + 1, 1, none⟩ v)) := fun u v =>
      made_nil 1 ((H3.out.put (i := 1) rfl 0 u).put (i := 1) rfl 1 v).belowN
    clear H3
    go_wp2
    exact bodyPost_ret (v := .tuple #[.agg #[.slice none 0 0, .slice none 0 0], .int .i64 1]) (by simp [results, Tryz.results23, go_sem, *]) rfl (HF.out _ _)
set_option maxRecDepth 100000 in
set_option maxHeartbeats 3200000 in
theorem mmonad_at {w : World} {Y : Ar} (hY : Y.Is w) {op : Int} (hm : amE Y.s Y.a = 0) {j : Nat} (hj : j < 13) {ff : Nat} {d : Value} {p : Bool} (hd : fnOr d) (hrow : rowL.getD j rowD = (op, fnV ff, d, p)) (eg : ∀ args w, (callFunc ff args).run Tryz.prog w = .ok (.enter ff args) w) {s a : List Int} {err : Int} (hC : ∀ W, Below w.heap.size w W → Calls Tryz.prog ff #[Y.v] W (MadeE W s a err)) : Calls Tryz.prog 23 #[.int .i64 op, Y.v] w (MadeE w s a err) := by
  obtain ⟨ta, tn, tc, ba, bn, bc, t, b⟩ := Y
  simp only [Ar.v]
  obtain ⟨W, HW⟩ : ∃ z, Hid ((w.alloc (.cells #[.slice ta tn tc, .slice ba bn bc] 38)).alloc (.cells #[.slice none 0 0, .slice none 0 0] 38) = z) := ⟨_, rfl⟩
  have h0 := ((Sp.start Non w).alloc 38 2 1 #[.slice ta tn tc, .slice ba bn bc] rfl (by decide)).alloc 38 2 1 #[.slice none 0 0, .slice none 0 0] rfl (by decide)
  rw [HW.out] at h0
  have H1_ := h0
  try simp only [List.cons_append, List.nil_append, List.set_cons_zero, List.set_cons_succ, List.map_cons, List.map_nil, List.getD_cons_zero, List.getD_cons_succ, World.size_alloc] at H1_
  have H1 := Lib.hid H1_
  clear H1_
  have HY := Lib.hid hY
  have CF := Lib.hid (find_at hj (by rw [hrow]) W)
  rw [hrow] at CF
  simp only [rwV, fnV] at CF
  have HC := Lib.hid hC
  clear hC hrow hj
  have HM := Lib.hid hm
  clear h0 hY hm  
  go_enter Tryz.func23, Tryz.ntmps23
  go_wp2_with fail
  rw [HW.out]
  refine CF.out.mono ?_; rintro e w2 ⟨rfl, hb2⟩
  have h2 := (H1.out.via hb2).alloc 91 4 1 #[.int .i64 op, .func (.func ff) #[] #[], d, .bool p] rfl (by decide)
  have hI := HY.out.below h2.belowN (Nat.le_refl _)
  have CM := arrmay_any hI
  simp only [Ar.v] at CM
  rw [HM.out] at CM
  have x0 : (w2.alloc (.cells #[.int .i64 op, .func (.func ff) #[] #[], d, .bool p] 91)).cell? ⟨w.heap.size, 0, none⟩ = some (.slice ta tn tc) := h2.cell (i := 0) rfl 0 _ rfl
  have x1 : (w2.alloc (.cells #[.int .i64 op, .func (.func ff) #[] #[], d, .bool p] 91)).cell? ⟨w.heap.size, 1, none⟩ = some (.slice ba bn bc) := h2.cell (i := 0) rfl 1 _ rfl
  have CM := Lib.hid CM
  have H2 := Lib.hid h2
  clear h2 hI hb2
  rcases hd with rfl | ⟨g2, rfl⟩
  all_goals
    go_wp2_with fail
    refine CM.out.mono ?_; rintro e w3 ⟨rfl, hb3⟩
    have H3_ := H2.out.via hb3
    try simp only [List.cons_append, List.nil_append, List.set_cons_zero, List.set_cons_succ, List.map_cons, List.map_nil, List.getD_cons_zero, List.getD_cons_succ, World.size_alloc] at H3_
    have H3 := Lib.hid H3_
    clear H3_
    clear x0 x1 hb3
    have y0 := H3.out.cell (i := 0) rfl 0 _ rfl
    have y1 := H3.out.cell (i := 0) rfl 1 _ rfl
    have y2 := H3.out.cell (i := 2) rfl 1 _ rfl
    have C4 := HC.out w3 H3.out.belowN
    simp only [Ar.v] at C4
    have C4 := Lib.hid C4
    go_wp2_with fail
    refine C4.out.mono ?_; rintro e w4 ⟨⟨za, zn, zc, xa, xn, xc, zs, zt⟩, rfl, hI, hs, ha, hO, hb⟩
    have H4_ := H3.out.arrNew hI hO hb
    try simp only [List.cons_append, List.nil_append, List.set_cons_zero, List.set_cons_succ, List.map_cons, List.map_nil, List.getD_cons_zero, List.getD_cons_succ, World.size_alloc] at H4_
    have H4 := Lib.hid H4_
    clear H4_
    simp only at hs ha
    subst hs ha
    simp only [Ar.v]
    clear y0 y1 y2
    have x0 := H4.out.cell (i := 1) rfl 0 _ rfl
    have x1 := H4.out.cell (i := 1) rfl 1 _ rfl
    have f0 := H4.out.frozen (i := 1) rfl 0
    have f1 := H4.out.frozen (i := 1) rfl 1
    have HF : Hid (∀ u v, MadeE w zs zt err (.returned (.tuple #[.agg #[.slice za zn zc, .slice xa xn xc], .int .i64 err])) ((w4.setCell ⟨w.heap.size + 1, 0, none⟩ u).setCell ⟨w.heap.size + 1, 1, none⟩ v)) := fun u v =>
      ((H4.out.put (i := 1) rfl 0 u).put (i := 1) rfl 1 v).madeE (i := 3) (B := ⟨za, zn, zc, xa, xn, xc, zs, zt⟩) rfl err
    clear hI hO hb H4 H3
    go_wp2
    exact bodyPost_ret (v := .tuple #[.agg #[.slice za zn zc, .slice xa xn xc], .int .i64 err]) (by simp [results, Tryz.results23, go_sem, *]) rfl (HF.out _ _)
set_option maxRecDepth 100000 in
set_option maxHeartbeats 3200000 in
theorem mdyad_arg1 {w : World} {X Y : Ar} (hX : X.Is w) (hY : Y.Is w) {op : Int} (hm : amE X.s X.a ≠ 0) : Calls Tryz.prog 29 #[.int .i64 op, X.v, Y.v] w (MadeE w [] [] 1) := by
  obtain ⟨sa, sn, sc, aa, an, ac, s, a⟩ := X
  obtain ⟨ta, tn, tc, ba, bn, bc, t, b⟩ := Y
  simp only [Ar.v]
  obtain ⟨W, HW⟩ : ∃ z, Hid (((w.alloc (.cells #[.slice sa sn sc, .slice aa an ac] 38)).alloc (.cells #[.slice ta tn tc, .slice ba bn bc] 38)).alloc (.cells #[.slice none 0 0, .slice none 0 0] 38) = z) := ⟨_, rfl⟩
  have h0 := (((Sp.start Non w).alloc 38 2 1 #[.slice sa sn sc, .slice aa an ac] rfl (by decide)).alloc 38 2 1 #[.slice ta tn tc, .slice ba bn bc] rfl (by decide)).alloc 38 2 1 #[.slice none 0 0, .slice none 0 0] rfl (by decide)
  rw [HW.out] at h0
  have H1_ := h0
  try simp only [List.cons_append, List.nil_append, List.set_cons_zero, List.set_cons_succ, List.map_cons, List.map_nil, List.getD_cons_zero, List.getD_cons_succ, World.size_alloc] at H1_
  have H1 := Lib.hid H1_
  clear H1_
  have HX := Lib.hid hX
  have HY := Lib.hid hY
  have CF : Hid (Calls Tryz.prog 48 #[.int .i64 op] W (fun e w' => Below W.heap.size W w' ∧ ∃ r : Int × Value × Value × Bool, fnOr r.2.1 ∧ fnOr r.2.2.1 ∧ ∃ ok : Bool, e = .returned (.tuple #[rwV r, .bool ok]))) := (find_any op W).mono fun e w' h => by
    obtain ⟨hb, ⟨i, hi, hio, rfl⟩ | ⟨hno, rfl⟩⟩ := h
    · exact ⟨hb, _, (rowL_fn hi).1, (rowL_fn hi).2, true, rfl⟩
    · exact ⟨hb, rowD, .inl rfl, .inl rfl, false, rfl⟩
  obtain ⟨m, hmm⟩ : ∃ m, m = amE s a := ⟨_, rfl⟩
  simp only at hm
  rw [← hmm] at hm
  have q0 : (m != 0) = true := by simpa using hm
  have HM := Lib.hid hmm.symm
  clear hmm hm
  clear h0 hX hY
  go_enter Tryz.func29, Tryz.ntmps29
  go_wp2_with fail
  rw [HW.out]
  refine CF.out.mono ?_; rintro e w2 ⟨hb2, ⟨o2, r1, r2, r3⟩, n1, n2, ok, rfl⟩
  simp only [rwV]
  simp only at n1 n2
  have h2 := (H1.out.via hb2).alloc 91 4 1 #[.int .i64 o2, r1, r2, .bool r3] rfl (by decide)
  have CM := arrmay_any (HX.out.below h2.belowN (Nat.le_refl _))
  simp only [Ar.v] at CM
  rw [HM.out] at CM
  have x0 : (w2.alloc (.cells #[.int .i64 o2, r1, r2, .bool r3] 91)).cell? ⟨w.heap.size, 0, none⟩ = some (.slice sa sn sc) := h2.cell (i := 0) rfl 0 _ rfl
  have x1 : (w2.alloc (.cells #[.int .i64 o2, r1, r2, .bool r3] 91)).cell? ⟨w.heap.size, 1, none⟩ = some (.slice aa an ac) := h2.cell (i := 0) rfl 1 _ rfl
  have CM := Lib.hid CM
  have H2 := Lib.hid h2
  clear h2 hb2
  rcases n1 with rfl | ⟨g1, rfl⟩ <;> rcases n2 with rfl | ⟨g2, rfl⟩
  all_goals
    go_wp2_with fail
    refine CM.out.mono ?_; rintro e w3 ⟨rfl, hb3⟩
    have H3_ := H2.out.via hb3
    try simp only [List.cons_append, List.nil_append, List.set_cons_zero, List.set_cons_succ, List.map_cons, List.map_nil, List.getD_cons_zero, List.getD_cons_succ, World.size_alloc] at H3_
    have H3 := Lib.hid H3_
    clear H3_
    clear x0 x1 hb3
    obtain ⟨w4, HW4⟩ : ∃ z, Hid (w3 = z) := ⟨_, rfl⟩
    have H4 := H3
    rw [HW4.out] at H4 ⊢
    have f0 := H4.out.frozen (i := 2) rfl 0
    have f1 := H4.out.frozen (i := 2) rfl 1
    have y0 := H4.out.cell (i := 2) rfl 0 _ rfl
    have y1 := H4.out.cell (i := 2) rfl 1 _ rfl
    have HF : Hid (∀ u v, MadeE w [] [] 1 (.returned (.tuple #[.agg #[.slice none 0 0, .slice none 0 0], .int .i64 1])) ((w4.setCell ⟨w.heap.size + 1 + 1, 0, none⟩ u).setCell ⟨w.heap.size + 1 + 1, 1, none⟩ v)) := fun u v =>
      made_nil 1 ((H4.out.put (i := 2) rfl 0 u).put (i := 2) rfl 1 v).belowN
    clear H4 H3
    go_wp2
    exact bodyPost_ret (v := .tuple #[.agg #[.slice none 0 0, .slice none 0 0], .int .i64 1]) (by simp [results, Tryz.results29, go_sem, *]) rfl (HF.out _ _)
set_option maxRecDepth 100000 in
set_option maxHeartbeats 3200000 in
theorem mdyad_arg2 {w : World} {X Y : Ar} (hX : X.Is w) (hY : Y.Is w) {op : Int} (hmx : amE X.s X.a = 0) (hm : amE Y.s Y.a ≠ 0) : Calls Tryz.prog 29 #[.int .i64 op, X.v, Y.v] w (MadeE w [] [] 1) := by
  obtain ⟨sa, sn, sc, aa, an, ac, s, a⟩ := X
  obtain ⟨ta, tn, tc, ba, bn, bc, t, b⟩ := Y
  simp only [Ar.v]
  obtain ⟨W, HW⟩ : ∃ z, Hid (((w.alloc (.cells #[.slice sa sn sc, .slice aa an ac] 38)).alloc (.cells #[.slice ta tn tc, .slice ba bn bc] 38)).alloc (.cells #[.slice none 0 0, .slice none 0 0] 38) = z) := ⟨_, rfl⟩
  have h0 := (((Sp.start Non w).alloc 38 2 1 #[.slice sa sn sc, .slice aa an ac] rfl (by decide)).alloc 38 2 1 #[.slice ta tn tc, .slice ba bn bc] rfl (by decide)).alloc 38 2 1 #[.slice none 0 0, .slice none 0 0] rfl (by decide)
  rw [HW.out] at h0
  have H1_ := h0
  try simp only [List.cons_append, List.nil_append, List.set_cons_zero, List.set_cons_succ, List.map_cons, List.map_nil, List.getD_cons_zero, List.getD_cons_succ, World.size_alloc] at H1_
  have H1 := Lib.hid H1_
  clear H1_
  have HX := Lib.hid hX
  have HY := Lib.hid hY
  have CF : Hid (Calls Tryz.prog 48 #[.int .i64 op] W (fun e w' => Below W.heap.size W w' ∧ ∃ r : Int × Value × Value × Bool, fnOr r.2.1 ∧ fnOr r.2.2.1 ∧ ∃ ok : Bool, e = .returned (.tuple #[rwV r, .bool ok]))) := (find_any op W).mono fun e w' h => by
    obtain ⟨hb, ⟨i, hi, hio, rfl⟩ | ⟨hno, rfl⟩⟩ := h
    · exact ⟨hb, _, (rowL_fn hi).1, (rowL_fn hi).2, true, rfl⟩
    · exact ⟨hb, rowD, .inl rfl, .inl rfl, false, rfl⟩
  obtain ⟨m, hmm⟩ : ∃ m, m = amE t b := ⟨_, rfl⟩
  simp only at hm
  rw [← hmm] at hm
  have q0 : (m != 0) = true := by simpa using hm
  have HM := Lib.hid hmx
  have HM2 := Lib.hid hmm.symm
  clear hmm hm
  clear hmx
  clear h0 hX hY
  go_enter Tryz.func29, Tryz.ntmps29
  go_wp2_with fail
  rw [HW.out]
  refine CF.out.mono ?_; rintro e w2 ⟨hb2, ⟨o2, r1, r2, r3⟩, n1, n2, ok, rfl⟩
  simp only [rwV]
  simp only at n1 n2
  have h2 := (H1.out.via hb2).alloc 91 4 1 #[.int .i64 o2, r1, r2, .bool r3] rfl (by decide)
  have CM := arrmay_any (HX.out.below h2.belowN (Nat.le_refl _))
  simp only [Ar.v] at CM
  rw [HM.out] at CM
  have x0 : (w2.alloc (.cells #[.int .i64 o2, r1, r2, .bool r3] 91)).cell? ⟨w.heap.size, 0, none⟩ = some (.slice sa sn sc) := h2.cell (i := 0) rfl 0 _ rfl
  have x1 : (w2.alloc (.cells #[.int .i64 o2, r1, r2, .bool r3] 91)).cell? ⟨w.heap.size, 1, none⟩ = some (.slice aa an ac) := h2.cell (i := 0) rfl 1 _ rfl
  have CM := Lib.hid CM
  have H2 := Lib.hid h2
  clear h2 hb2
  rcases n1 with rfl | ⟨g1, rfl⟩ <;> rcases n2 with rfl | ⟨g2, rfl⟩
  all_goals
    go_wp2_with fail
    refine CM.out.mono ?_; rintro e w3 ⟨rfl, hb3⟩
    have H3_ := H2.out.via hb3
    try simp only [List.cons_append, List.nil_append, List.set_cons_zero, List.set_cons_succ, List.map_cons, List.map_nil, List.getD_cons_zero, List.getD_cons_succ, World.size_alloc] at H3_
    have H3 := Lib.hid H3_
    clear H3_
    clear x0 x1 hb3
    have x0 := H3.out.cell (i := 1) rfl 0 _ rfl
    have x1 := H3.out.cell (i := 1) rfl 1 _ rfl
    have CM2 := arrmay_any (HY.out.below H3.out.belowN (Nat.le_refl _))
    simp only [Ar.v] at CM2
    rw [HM2.out] at CM2
    have CM2 := Lib.hid CM2
    go_wp2_with fail
    refine CM2.out.mono ?_; rintro e w4 ⟨rfl, hb4⟩
    have H4_ := H3.out.via hb4
    try simp only [List.cons_append, List.nil_append, List.set_cons_zero, List.set_cons_succ, List.map_cons, List.map_nil, List.getD_cons_zero, List.getD_cons_succ, World.size_alloc] at H4_
    have H4 := Lib.hid H4_
    clear H4_
    clear x0 x1 hb4
    have f0 := H4.out.frozen (i := 2) rfl 0
    have f1 := H4.out.frozen (i := 2) rfl 1
    have y0 := H4.out.cell (i := 2) rfl 0 _ rfl
    have y1 := H4.out.cell (i := 2) rfl 1 _ rfl
    have HF : Hid (∀ u v, MadeE w [] [] 1 (.returned (.tuple #[.agg #[.slice none 0 0, .slice none 0 0], .int .i64 1])) ((w4.setCell ⟨w.heap.size + 1 + 1, 0, none⟩ u).setCell ⟨w.heap.size + 1 + 1, 1, none⟩ v)) := fun u v =>
      made_nil 1 ((H4.out.put (i := 2) rfl 0 u).put (i := 2) rfl 1 v).belowN
    clear H4 H3
    go_wp2
    exact bodyPost_ret (v := .tuple #[.agg #[.slice none 0 0, .slice none 0 0], .int .i64 1]) (by simp [results, Tryz.results29, go_sem, *]) rfl (HF.out _ _)
set_option maxRecDepth 100000 in
set_option maxHeartbeats 3200000 in
theorem mdyad_no {w : World} {X Y : Ar} (hX : X.Is w) (hY : Y.Is w) {op : Int} (hmx : amE X.s X.a = 0) (hmy : amE Y.s Y.a = 0) (hno : ∀ j, j < 13 → (rowL.getD j rowD).1 ≠ op) : Calls Tryz.prog 29 #[.int .i64 op, X.v, Y.v] w (MadeE w [] [] 1) := by
  obtain ⟨sa, sn, sc, aa, an, ac, s, a⟩ := X
  obtain ⟨ta, tn, tc, ba, bn, bc, t, b⟩ := Y
  simp only [Ar.v]
  obtain ⟨W, HW⟩ : ∃ z, Hid (((w.alloc (.cells #[.slice sa sn sc, .slice aa an ac] 38)).alloc (.cells #[.slice ta tn tc, .slice ba bn bc] 38)).alloc (.cells #[.slice none 0 0, .slice none 0 0] 38) = z) := ⟨_, rfl⟩
  have h0 := (((Sp.start Non w).alloc 38 2 1 #[.slice sa sn sc, .slice aa an ac] rfl (by decide)).alloc 38 2 1 #[.slice ta tn tc, .slice ba bn bc] rfl (by decide)).alloc 38 2 1 #[.slice none 0 0, .slice none 0 0] rfl (by decide)
  rw [HW.out] at h0
  have H1_ := h0
  try simp only [List.cons_append, List.nil_append, List.set_cons_zero, List.set_cons_succ, List.map_cons, List.map_nil, List.getD_cons_zero, List.getD_cons_succ, World.size_alloc] at H1_
  have H1 := Lib.hid H1_
  clear H1_
  have HX := Lib.hid hX
  have HY := Lib.hid hY
  have CF := Lib.hid (find_no hno W)
  simp only [rwV, rowD] at CF
  have HM := Lib.hid hmx
  have HM2 := Lib.hid hmy
  clear hno
  clear hmx hmy
  clear h0 hX hY
  go_enter Tryz.func29, Tryz.ntmps29
  go_wp2_with fail
  rw [HW.out]
  refine CF.out.mono ?_; rintro e w2 ⟨rfl, hb2⟩
  have h2 := (H1.out.via hb2).alloc 91 4 1 #[.int .i64 0, .nilFunc, .nilFunc, .bool false] rfl (by decide)
  have CM := arrmay_any (HX.out.below h2.belowN (Nat.le_refl _))
  simp only [Ar.v] at CM
  rw [HM.out] at CM
  have x0 : (w2.alloc (.cells #[.int .i64 0, .nilFunc, .nilFunc, .bool false] 91)).cell? ⟨w.heap.size, 0, none⟩ = some (.slice sa sn sc) := h2.cell (i := 0) rfl 0 _ rfl
  have x1 : (w2.alloc (.cells #[.int .i64 0, .nilFunc, .nilFunc, .bool false] 91)).cell? ⟨w.heap.size, 1, none⟩ = some (.slice aa an ac) := h2.cell (i := 0) rfl 1 _ rfl
  have CM := Lib.hid CM
  have H2 := Lib.hid h2
  clear h2 hb2
  rcases (Or.inl trivial : True ∨ False) with - | -
  all_goals
    go_wp2_with fail
    refine CM.out.mono ?_; rintro e w3 ⟨rfl, hb3⟩
    have H3_ := H2.out.via hb3
    try simp only [List.cons_append, List.nil_append, List.set_cons_zero, List.set_cons_succ, List.map_cons, List.map_nil, List.getD_cons_zero, List.getD_cons_succ, World.size_alloc] at H3_
    have H3 := Lib.hid H3_
    clear H3_
    clear x0 x1 hb3
    have x0 := H3.out.cell (i := 1) rfl 0 _ rfl
    have x1 := H3.out.cell (i := 1) rfl 1 _ rfl
    have CM2 := arrmay_any (HY.out.below H3.out.belowN (Nat.le_refl _))
    simp only [Ar.v] at CM2
    rw [HM2.out] at CM2
    have CM2 := Lib.hid CM2
    go_wp2_with fail
    refine CM2.out.mono ?_; rintro e w4 ⟨rfl, hb4⟩
    have H4_ := H3.out.via hb4
    try simp only [List.cons_append, List.nil_append, List.set_cons_zero, List.set_cons_succ, List.map_cons, List.map_nil, List.getD_cons_zero, List.getD_cons_succ, World.size_alloc] at H4_
    have H4 := Lib.hid H4_
    clear H4_
    clear x0 x1 hb4
    have f0 := H4.out.frozen (i := 2) rfl 0
    have f1 := H4.out.frozen (i := 2) rfl 1
    have y0 := H4.out.cell (i := 2) rfl 0 _ rfl
    have y1 := H4.out.cell (i := 2) rfl 1 _ rfl
    have HF : Hid (∀ u v, MadeE w [] [] 1 (.returned (.tuple #[.agg #[.slice none 0 0, .slice none 0 0], .int .i64 1])) ((w4.setCell ⟨w.heap.size + 1 + 1, 0, none⟩ u).setCell ⟨w.heap.size + 1 + 1, 1, none⟩ v)) := fun u v =>
      made_nil 1 ((H4.out.put (i := 2) rfl 0 u).put (i := 2) rfl 1 v).belowN
    clear H4 H3
    go_wp2
    exact bodyPost_ret (v := .tuple #[.agg #[.slice none 0 0, .slice none 0 0], .int .i64 1]) (by simp [results, Tryz.results29, go_sem, *]) rfl (HF.out _ _)
set_option maxRecDepth 100000 in
set_option maxHeartbeats 3200000 in
theorem mdyad_nil {w : World} {X Y : Ar} (hX : X.Is w) (hY : Y.Is w) {op : Int} (hmx : amE X.s X.a = 0) (hmy : amE Y.s Y.a = 0) {j : Nat} (hj : j < 13) {d : Value} {p : Bool} (hd : fnOr d) (hrow : rowL.getD j rowD = (op, d, .nilFunc, p)) : Calls Tryz.prog 29 #[.int .i64 op, X.v, Y.v] w (MadeE w [] [] 16) := by
  obtain ⟨sa, sn, sc, aa, an, ac, s, a⟩ := X
  obtain ⟨ta, tn, tc, ba, bn, bc, t, b⟩ := Y
  simp only [Ar.v]
  obtain ⟨W, HW⟩ : ∃ z, Hid (((w.alloc (.cells #[.slice sa sn sc, .slice aa an ac] 38)).alloc (.cells #[.slice ta tn tc, .slice ba bn bc] 38)).alloc (.cells #[.slice none 0 0, .slice none 0 0] 38) = z) := ⟨_, rfl⟩
  have h0 := (((Sp.start Non w).alloc 38 2 1 #[.slice sa sn sc, .slice aa an ac] rfl (by decide)).alloc 38 2 1 #[.slice ta tn tc, .slice ba bn bc] rfl (by decide)).alloc 38 2 1 #[.slice none 0 0, .slice none 0 0] rfl (by decide)
  rw [HW.out] at h0
  have H1_ := h0
  try simp only [List.cons_append, List.nil_append, List.set_cons_zero, List.set_cons_succ, List.map_cons, List.map_nil, List.getD_cons_zero, List.getD_cons_succ, World.size_alloc] at H1_
  have H1 := Lib.hid H1_
  clear H1_
  have HX := Lib.hid hX
  have HY := Lib.hid hY
  have CF := Lib.hid (find_at hj (by rw [hrow]) W)
  rw [hrow] at CF
  simp only [rwV, fnV] at CF
  clear hrow hj
  have HM := Lib.hid hmx
  have HM2 := Lib.hid hmy
  clear hmx hmy
  clear h0 hX hY
  go_enter Tryz.func29, Tryz.ntmps29
  go_wp2_with fail
  rw [HW.out]
  refine CF.out.mono ?_; rintro e w2 ⟨rfl, hb2⟩
  have h2 := (H1.out.via hb2).alloc 91 4 1 #[.int .i64 op, d, .nilFunc, .bool p] rfl (by decide)
  have CM := arrmay_any (HX.out.below h2.belowN (Nat.le_refl _))
  simp only [Ar.v] at CM
  rw [HM.out] at CM
  have x0 : (w2.alloc (.cells #[.int .i64 op, d, .nilFunc, .bool p] 91)).cell? ⟨w.heap.size, 0, none⟩ = some (.slice sa sn sc) := h2.cell (i := 0) rfl 0 _ rfl
  have x1 : (w2.alloc (.cells #[.int .i64 op, d, .nilFunc, .bool p] 91)).cell? ⟨w.heap.size, 1, none⟩ = some (.slice aa an ac) := h2.cell (i := 0) rfl 1 _ rfl
  have CM := Lib.hid CM
  have H2 := Lib.hid h2
  clear h2 hb2
  rcases hd with rfl | ⟨g2, rfl⟩
  all_goals
    go_wp2_with fail
    refine CM.out.mono ?_; rintro e w3 ⟨rfl, hb3⟩
    have H3_ := H2.out.via hb3
    try simp only [List.cons_append, List.nil_append, List.set_cons_zero, List.set_cons_succ, List.map_cons, List.map_nil, List.getD_cons_zero, List.getD_cons_succ, World.size_alloc] at H3_
    have H3 := Lib.hid H3_
    clear H3_
    clear x0 x1 hb3
    have x0 := H3.out.cell (i := 1) rfl 0 _ rfl
    have x1 := H3.out.cell (i := 1) rfl 1 _ rfl
    have CM2 := arrmay_any (HY.out.below H3.out.belowN (Nat.le_refl _))
    simp only [Ar.v] at CM2
    rw [HM2.out] at CM2
    have CM2 := Lib.hid CM2
    go_wp2_with fail
    refine CM2.out.mono ?_; rintro e w4 ⟨rfl, hb4⟩
    have H4_ := H3.out.via hb4
    try simp only [List.cons_append, List.nil_append, List.set_cons_zero, List.set_cons_succ, List.map_cons, List.map_nil, List.getD_cons_zero, List.getD_cons_succ, World.size_alloc] at H4_
    have H4 := Lib.hid H4_
    clear H4_
    clear x0 x1 hb4
    have f0 := H4.out.frozen (i := 2) rfl 0
    have f1 := H4.out.frozen (i := 2) rfl 1
    have y0 := H4.out.cell (i := 2) rfl 0 _ rfl
    have y1 := H4.out.cell (i := 2) rfl 1 _ rfl
    have HF : Hid (∀ u v, MadeE w [] [] 16 (.returned (.tuple #[.agg #[.slice none 0 0, .slice none 0 0], .int .i64 16])) ((w4.setCell ⟨w.heap.size + 1 + 1, 0, none⟩ u).setCell ⟨w.heap.size + 1 + 1, 1, none⟩ v)) := fun u v =>
      made_nil 16 ((H4.out.put (i := 2) rfl 0 u).put (i := 2) rfl 1 v).belowN
    have z2 := H4.out.cell (i := 3) rfl 2 _ rfl
    have z3 := H4.out.cell (i := 3) rfl 3 _ rfl
    clear H4 H3
    go_wp2
    exact bodyPost_ret (v := .tuple #[.agg #[.slice none 0 0, .slice none 0 0], .int .i64 16]) (by simp [results, Tryz.results29, go_sem, *]) rfl (HF.out _ _)
set_option maxRecDepth 100000 in
set_option maxHeartbeats 3200000 in
theorem mdyad_rank {w : World} {X Y : Ar} (hX : X.Is w) (hY : Y.Is w) {op : Int} (hmx : amE X.s X.a = 0) (hmy : amE Y.s Y.a = 0) {j : Nat} (hj : j < 13) {d : Value} (hd : fnOr d) {ff : Nat} (hrow : rowL.getD j rowD = (op, d, fnV ff, true)) (hsn : 1 < X.sn) : Calls Tryz.prog 29 #[.int .i64 op, X.v, Y.v] w (MadeE w [] [] 12) := by
  obtain ⟨sa, sn, sc, aa, an, ac, s, a⟩ := X
  obtain ⟨ta, tn, tc, ba, bn, bc, t, b⟩ := Y
  simp only [Ar.v]
  obtain ⟨W, HW⟩ : ∃ z, Hid (((w.alloc (.cells #[.slice sa sn sc, .slice aa an ac] 38)).alloc (.cells #[.slice ta tn tc, .slice ba bn bc] 38)).alloc (.cells #[.slice none 0 0, .slice none 0 0] 38) = z) := ⟨_, rfl⟩
  have h0 := (((Sp.start Non w).alloc 38 2 1 #[.slice sa sn sc, .slice aa an ac] rfl (by decide)).alloc 38 2 1 #[.slice ta tn tc, .slice ba bn bc] rfl (by decide)).alloc 38 2 1 #[.slice none 0 0, .slice none 0 0] rfl (by decide)
  rw [HW.out] at h0
  have H1_ := h0
  try simp only [List.cons_append, List.nil_append, List.set_cons_zero, List.set_cons_succ, List.map_cons, List.map_nil, List.getD_cons_zero, List.getD_cons_succ, World.size_alloc] at H1_
  have H1 := Lib.hid H1_
  clear H1_
  have HX := Lib.hid hX
  have HY := Lib.hid hY
  have CF := Lib.hid (find_at hj (by rw [hrow]) W)
  rw [hrow] at CF
  simp only [rwV, fnV] at CF
  simp only at hsn
  have hs1 : (1 : Int) < sn := by omega
  clear hrow hj
  have HM := Lib.hid hmx
  have HM2 := Lib.hid hmy
  clear hmx hmy
  clear h0 hX hY
  go_enter Tryz.func29, Tryz.ntmps29
  go_wp2_with fail
  rw [HW.out]
  refine CF.out.mono ?_; rintro e w2 ⟨rfl, hb2⟩
  have h2 := (H1.out.via hb2).alloc 91 4 1 #[.int .i64 op, d, .func (.func ff) #[] #[], .bool true] rfl (by decide)
  have CM := arrmay_any (HX.out.below h2.belowN (Nat.le_refl _))
  simp only [Ar.v] at CM
  rw [HM.out] at CM
  have x0 : (w2.alloc (.cells #[.int .i64 op, d, .func (.func ff) #[] #[], .bool true] 91)).cell? ⟨w.heap.size, 0, none⟩ = some (.slice sa sn sc) := h2.cell (i := 0) rfl 0 _ rfl
  have x1 : (w2.alloc (.cells #[.int .i64 op, d, .func (.func ff) #[] #[], .bool true] 91)).cell? ⟨w.heap.size, 1, none⟩ = some (.slice aa an ac) := h2.cell (i := 0) rfl 1 _ rfl
  have CM := Lib.hid CM
  have H2 := Lib.hid h2
  clear h2 hb2
  rcases hd with rfl | ⟨g2, rfl⟩
  all_goals
    go_wp2_with fail
    refine CM.out.mono ?_; rintro e w3 ⟨rfl, hb3⟩
    have H3_ := H2.out.via hb3
    try simp only [List.cons_append, List.nil_append, List.set_cons_zero, List.set_cons_succ, List.map_cons, List.map_nil, List.getD_cons_zero, List.getD_cons_succ, World.size_alloc] at H3_
    have H3 := Lib.hid H3_
    clear H3_
    clear x0 x1 hb3
    have x0 := H3.out.cell (i := 1) rfl 0 _ rfl
    have x1 := H3.out.cell (i := 1) rfl 1 _ rfl
    have CM2 := arrmay_any (HY.out.below H3.out.belowN (Nat.le_refl _))
    simp only [Ar.v] at CM2
    rw [HM2.out] at CM2
    have CM2 := Lib.hid CM2
    go_wp2_with fail
    refine CM2.out.mono ?_; rintro e w4 ⟨rfl, hb4⟩
    have H4_ := H3.out.via hb4
    try simp only [List.cons_append, List.nil_append, List.set_cons_zero, List.set_cons_succ, List.map_cons, List.map_nil, List.getD_cons_zero, List.getD_cons_succ, World.size_alloc] at H4_
    have H4 := Lib.hid H4_
    clear H4_
    clear x0 x1 hb4
    have f0 := H4.out.frozen (i := 2) rfl 0
    have f1 := H4.out.frozen (i := 2) rfl 1
    have y0 := H4.out.cell (i := 2) rfl 0 _ rfl
    have y1 := H4.out.cell (i := 2) rfl 1 _ rfl
    have HF : Hid (∀ u v, MadeE w [] [] 12 (.returned (.tuple #[.agg #[.slice none 0 0, .slice none 0 0], .int .i64 12])) ((w4.setCell ⟨w.heap.size + 1 + 1, 0, none⟩ u).setCell ⟨w.heap.size + 1 + 1, 1, none⟩ v)) := fun u v =>
      made_nil 12 ((H4.out.put (i := 2) rfl 0 u).put (i := 2) rfl 1 v).belowN
    have z2 := H4.out.cell (i := 3) rfl 2 _ rfl
    have z3 := H4.out.cell (i := 3) rfl 3 _ rfl
    have z4 := H4.out.cell (i := 0) rfl 0 _ rfl
    clear H4 H3
    go_wp2
    exact bodyPost_ret (v := .tuple #[.agg #[.slice none 0 0, .slice none 0 0], .int .i64 12]) (by simp [results, Tryz.results29, go_sem, *]) rfl (HF.out _ _)
set_option maxRecDepth 100000 in
set_option maxHeartbeats 3200000 in
theorem mdyad_at {w : World} {X Y : Ar} (hX : X.Is w) (hY : Y.Is w) {op : Int} (hmx : amE X.s X.a = 0) (hmy : amE Y.s Y.a = 0) {j : Nat} (hj : j < 13) {ff : Nat} {d : Value} {p : Bool} (hd : fnOr d) (hrow : rowL.getD j rowD = (op, d, fnV ff, p)) (hsn : p = true → X.sn ≤ 1) (eg : ∀ args w, (callFunc ff args).run Tryz.prog w = .ok (.enter ff args) w) {zs zt : List Int} {err : Int} (hC : ∀ W, Below w.heap.size w W → Calls Tryz.prog ff #[X.v, Y.v] W (MadeE W zs zt err)) : Calls Tryz.prog 29 #[.int .i64 op, X.v, Y.v] w (MadeE w zs zt err) := by
  obtain ⟨sa, sn, sc, aa, an, ac, s, a⟩ := X
  obtain ⟨ta, tn, tc, ba, bn, bc, t, b⟩ := Y
  simp only [Ar.v]
  obtain ⟨W, HW⟩ : ∃ z, Hid (((w.alloc (.cells #[.slice sa sn sc, .slice aa an ac] 38)).alloc (.cells #[.slice ta tn tc, .slice ba bn bc] 38)).alloc (.cells #[.slice none 0 0, .slice none 0 0] 38) = z) := ⟨_, rfl⟩
  have h0 := (((Sp.start Non w).alloc 38 2 1 #[.slice sa sn sc, .slice aa an ac] rfl (by decide)).alloc 38 2 1 #[.slice ta tn tc, .slice ba bn bc] rfl (by decide)).alloc 38 2 1 #[.slice none 0 0, .slice none 0 0] rfl (by decide)
  rw [HW.out] at h0
  have H1_ := h0
  try simp only [List.cons_append, List.nil_append, List.set_cons_zero, List.set_cons_succ, List.map_cons, List.map_nil, List.getD_cons_zero, List.getD_cons_succ, World.size_alloc] at H1_
  have H1 := Lib.hid H1_
  clear H1_
  have HX := Lib.hid hX
  have HY := Lib.hid hY
  have CF := Lib.hid (find_at hj (by rw [hrow]) W)
  rw [hrow] at CF
  simp only [rwV, fnV] at CF
  simp only at hsn
  have HC := Lib.hid hC
  clear hC
  clear hrow hj
  have HM := Lib.hid hmx
  have HM2 := Lib.hid hmy
  clear hmx hmy
  clear h0 hX hY
  go_enter Tryz.func29, Tryz.ntmps29
  go_wp2_with fail
  rw [HW.out]
  refine CF.out.mono ?_; rintro e w2 ⟨rfl, hb2⟩
  have h2 := (H1.out.via hb2).alloc 91 4 1 #[.int .i64 op, d, .func (.func ff) #[] #[], .bool p] rfl (by decide)
  have CM := arrmay_any (HX.out.below h2.belowN (Nat.le_refl _))
  simp only [Ar.v] at CM
  rw [HM.out] at CM
  have x0 : (w2.alloc (.cells #[.int .i64 op, d, .func (.func ff) #[] #[], .bool p] 91)).cell? ⟨w.heap.size, 0, none⟩ = some (.slice sa sn sc) := h2.cell (i := 0) rfl 0 _ rfl
  have x1 : (w2.alloc (.cells #[.int .i64 op, d, .func (.func ff) #[] #[], .bool p] 91)).cell? ⟨w.heap.size, 1, none⟩ = some (.slice aa an ac) := h2.cell (i := 0) rfl 1 _ rfl
  have CM := Lib.hid CM
  have H2 := Lib.hid h2
  clear h2 hb2
  rcases hd with rfl | ⟨g2, rfl⟩
  all_goals
    go_wp2_with fail
    refine CM.out.mono ?_; rintro e w3 ⟨rfl, hb3⟩
    have H3_ := H2.out.via hb3
    try simp only [List.cons_append, List.nil_append, List.set_cons_zero, List.set_cons_succ, List.map_cons, List.map_nil, List.getD_cons_zero, List.getD_cons_succ, World.size_alloc] at H3_
    have H3 := Lib.hid H3_
    clear H3_
    clear x0 x1 hb3
    have x0 := H3.out.cell (i := 1) rfl 0 _ rfl
    have x1 := H3.out.cell (i := 1) rfl 1 _ rfl
    have CM2 := arrmay_any (HY.out.below H3.out.belowN (Nat.le_refl _))
    simp only [Ar.v] at CM2
    rw [HM2.out] at CM2
    have CM2 := Lib.hid CM2
    go_wp2_with fail
    refine CM2.out.mono ?_; rintro e w4 ⟨rfl, hb4⟩
    have H4_ := H3.out.via hb4
    try simp only [List.cons_append, List.nil_append, List.set_cons_zero, List.set_cons_succ, List.map_cons, List.map_nil, List.getD_cons_zero, List.getD_cons_succ, World.size_alloc] at H4_
    have H4 := Lib.hid H4_
    clear H4_
    clear x0 x1 hb4
    have z2 := H4.out.cell (i := 3) rfl 2 _ rfl
    have z3 := H4.out.cell (i := 3) rfl 3 _ rfl
    have z4 := H4.out.cell (i := 0) rfl 0 _ rfl
    have y0 := H4.out.cell (i := 0) rfl 1 _ rfl
    have y1 := H4.out.cell (i := 1) rfl 0 _ rfl
    have y2 := H4.out.cell (i := 1) rfl 1 _ rfl
    have C4 := HC.out w4 H4.out.belowN
    simp only [Ar.v] at C4
    have C4 := Lib.hid C4
    cases p
    all_goals
      (try have hs0 := hsn rfl)
      (try have hs1 : ¬ (1 : Int) < sn := by omega)
      go_wp2_with fail
      refine C4.out.mono ?_; rintro e w5 ⟨⟨za, zn, zc, xa, xn, xc, zs, zt⟩, rfl, hI, hs, ha, hO, hb⟩
      have H5_ := H4.out.arrNew hI hO hb
      try simp only [List.cons_append, List.nil_append, List.set_cons_zero, List.set_cons_succ, List.map_cons, List.map_nil, List.getD_cons_zero, List.getD_cons_succ, World.size_alloc] at H5_
      have H5 := Lib.hid H5_
      clear H5_
      simp only at hs ha
      subst hs ha
      simp only [Ar.v]
      clear y0 y1 y2 z2 z3 z4
      have x0 := H5.out.cell (i := 2) rfl 0 _ rfl
      have x1 := H5.out.cell (i := 2) rfl 1 _ rfl
      have f0 := H5.out.frozen (i := 2) rfl 0
      have f1 := H5.out.frozen (i := 2) rfl 1
      have HF : Hid (∀ u v, MadeE w zs zt err (.returned (.tuple #[.agg #[.slice za zn zc, .slice xa xn xc], .int .i64 err])) ((w5.setCell ⟨w.heap.size + 1 + 1, 0, none⟩ u).setCell ⟨w.heap.size + 1 + 1, 1, none⟩ v)) := fun u v =>
        ((H5.out.put (i := 2) rfl 0 u).put (i := 2) rfl 1 v).madeE (i := 4) (B := ⟨za, zn, zc, xa, xn, xc, zs, zt⟩) rfl err
      clear hI hO hb H5 H4 H3
      go_wp2
      exact bodyPost_ret (v := .tuple #[.agg #[.slice za zn zc, .slice xa xn xc], .int .i64 err]) (by simp [results, Tryz.results29, go_sem, *]) rfl (HF.out _ _)
def mHas (op v : Int) : Bool := (decide (v = 1) && decide (op = 22 ∨ op = 23 ∨ op = 24 ∨ op = 25 ∨ op = 26 ∨ op = 28 ∨ op = 30 ∨ op = 29 ∨ op = 31 ∨ op = 32 ∨ op = 33 ∨ op = 41 ∨ op = 42)) || (decide (v = 2) && decide (op = 23 ∨ op = 24 ∨ op = 25 ∨ op = 26 ∨ op = 28 ∨ op = 29 ∨ op = 32 ∨ op = 33 ∨ op = 41 ∨ op = 42))
theorem rowL_has {j : Nat} (hj : j < 13) (v : Int) : mHas (rowL.getD j rowD).1 v = (decide (v = 1) || (decide (v = 2) && match (rowL.getD j rowD).2.2.1 with | .nilFunc => false | _ => true)) ∧ (rowL.getD j rowD).2.1 ≠ .nilFunc := by
  match j, hj with
  | 0, _ | 1, _ | 2, _ | 3, _ | 4, _ | 5, _ | 6, _ | 7, _ | 8, _ | 9, _ | 10, _ | 11, _ | 12, _ => exact ⟨by simp [mHas, rowL, fnV], by simp [rowL, fnV]⟩
theorem rowL_no {op : Int} (h : ∀ j, j < 13 → (rowL.getD j rowD).1 ≠ op) (v : Int) : mHas op v = false := by
  have h0 := h 0 (by omega)
  have h1 := h 1 (by omega)
  have h2 := h 2 (by omega)
  have h3 := h 3 (by omega)
  have h4 := h 4 (by omega)
  have h5 := h 5 (by omega)
  have h6 := h 6 (by omega)
  have h7 := h 7 (by omega)
  have h8 := h 8 (by omega)
  have h9 := h 9 (by omega)
  have h10 := h 10 (by omega)
  have h11 := h 11 (by omega)
  have h12 := h 12 (by omega)
  simp [rowL] at h0 h1 h2 h3 h4 h5 h6 h7 h8 h9 h10 h11 h12
  unfold mHas
  simp only [Bool.or_eq_false_iff, Bool.and_eq_false_iff, decide_eq_false_iff_not]
  exact ⟨.inr (by omega), .inr (by omega)⟩
set_option maxHeartbeats 1600000 in
theorem mhas_any (op v : Int) (w : World) : Calls Tryz.prog 34 #[.int .i64 op, .int .i64 v] w (RetB w (.bool (mHas op v))) := by
  have CF := Lib.hid (find_any op w)
  have q1 : (v == 1) = decide (v = 1) := by by_cases h : v = 1 <;> simp [h]
  have q2 : (v == 2) = decide (v = 2) := by by_cases h : v = 2 <;> simp [h]
  obtain ⟨b, HB⟩ : ∃ z, Hid (mHas op v = z) := ⟨_, rfl⟩
  rw [HB.out]
  go_enter Tryz.func34, Tryz.ntmps34
  go_wp2_with fail
  refine CF.out.mono ?_; rintro e w2 ⟨hb2, hor⟩
  have HF : Hid (∀ x c, x = b → RetB w (.bool b) (.returned (.bool x)) (w2.alloc c)) := fun x c h => by subst h; exact RetB.mk rfl (hb2.trans ((Below.refl _ _).alloc hb2.size c))
  rcases hor with ⟨j, hj, hjo, rfl⟩ | ⟨hno, rfl⟩
  · obtain ⟨k1, k2⟩ := rowL_has hj v
    obtain ⟨n1, n2⟩ := rowL_fn hj
    rw [hjo, HB.out] at k1
    simp only [rwV]
    obtain ⟨o, HOO⟩ : ∃ z, Hid ((rowL.getD j rowD).1 = z) := ⟨_, rfl⟩
    obtain ⟨v1, HV1⟩ : ∃ z, Hid ((rowL.getD j rowD).2.1 = z) := ⟨_, rfl⟩
    obtain ⟨v2, HV2⟩ : ∃ z, Hid ((rowL.getD j rowD).2.2.1 = z) := ⟨_, rfl⟩
    obtain ⟨v3, HV3⟩ : ∃ z, Hid ((rowL.getD j rowD).2.2.2 = z) := ⟨_, rfl⟩
    rw [HOO.out, HV1.out, HV2.out, HV3.out]
    rw [HV1.out] at k2 n1
    rw [HV2.out] at k1 n2
    have K1 := Lib.hid k1
    clear k1 hj hjo HOO HV1 HV2 HV3 hb2
    rcases n1 with rfl | ⟨g1, rfl⟩
    · exact absurd rfl k2
    clear k2
    rcases n2 with rfl | ⟨g2, rfl⟩
    all_goals
      have K4 := K1.out
      simp only [Bool.and_false, Bool.or_false, Bool.and_true] at K4
      have K5 := Lib.hid K4
      clear K4 K1
      by_cases h1 : v = 1
      · subst h1
        have K2 : Hid (true = b) := by show _ = _; rw [K5.out]; rfl
        clear K5 q1 q2 CF HB
        go_wp2
        go_ret
        exact HF.out _ _ K2.out
      · have e1 : (v == 1) = false := by simpa using h1
        by_cases h2 : v = 2
        · subst h2
          clear q1 q2 CF HB e1 h1
          go_wp2
          go_ret
          exact HF.out _ _ (by rw [K5.out]; rfl)
        · have e2 : (v == 2) = false := by simpa using h2
          have K3 : Hid (false = b) := by show _ = _; rw [K5.out]; simp [h1, h2]
          clear K5 q1 q2 CF HB h1 h2
          go_wp2
          go_ret
          exact HF.out _ _ K3.out
  · have K2 : Hid (false = b) := by show _ = _; rw [← HB.out, rowL_no hno]
    simp only [rwV, rowD]
    clear hno HB CF hb2
    go_wp2
    go_ret
    exact HF.out _ _ K2.out
end Go.Proofs.YthackmkdicpdeaaGreat

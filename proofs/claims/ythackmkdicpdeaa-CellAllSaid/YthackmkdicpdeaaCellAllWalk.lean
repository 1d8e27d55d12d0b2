/- A step at two joiners: this package's and the document's. The walk of CellAll's function. -/
import Derived.Test.YthackmkdicpdeaaHandsCK
import Derived.Test.YthackmkdicpdeaaOpC
import Derived.Test.YthackmkdicpdeaaCellJoin
import Derived.Test.YthackmkdicpdeaaR4Join
import Derived.Test.YthackmkdicpdeaaCellPlays
import Derived.Test.YthackmkdicpdeaaCellBegun3
namespace Go.Proofs.Ythackmkdicpdeaa
open Go.RowKit Go.Lib
set_option linter.unusedVariables false
set_option linter.unusedSimpArgs false
attribute [local go_sem] alloc_drewN setCell_drewN
/-- Two joiners beside one another: their blocks, and what both hold. -/
structure Sd where
  g : Nat
  g' : Nat
  fr : List Int
  c : List Int
  G : List (List Int × List Int)
def sdA : Option Sd → Pt
  | none => Pt.nil
  | some d => Pt.joiner d.g d.fr d.c d.G
def sdB : Option Sd → Pt
  | none => Pt.nil
  | some d => Pt.rjoiner d.g' d.fr d.c d.G
def sdV : Option Sd → Value
  | none => .pointer none
  | some d => .pointer (some ⟨d.g, 0, none⟩)
def sdW : Option Sd → Value
  | none => .pointer none
  | some d => .pointer (some ⟨d.g', 0, none⟩)
def JoinsP (w0 : World) (hb sb : Nat) (xs : List Value) (j : Nat) (C D E : Pt) (e : Ending) (w' : World) : Prop :=
  e = .returned (.bool true) ∧ ∃ d : Option Sd, Sp Non w0 w' [Pt.hands hb none none none none, Pt.row ⟨42, 4, some ⟨sb, 0, none⟩, 1, 1, (xs.set j (sdV d)).set (j + 1) (sdW d)⟩, sdA d, sdB d, C, D, E]
theorem set_at {xs : List Value} {j : Nat} {v : Value} (h : xs[j]? = some v) : xs.set j v = xs := by
  obtain ⟨h1, h2⟩ := List.getElem?_eq_some_iff.1 h
  rw [← h2]; exact List.set_getElem_self h1
set_option maxRecDepth 100000 in
set_option maxHeartbeats 6400000 in
theorem joins_begin_bad {w0 w : World} {hb sb j : Nat} {xs : List Value} {d : Option Sd} {C D E : Pt} (H : Sp Non w0 w [Pt.hands hb none none none none, Pt.row ⟨42, 4, some ⟨sb, 0, none⟩, 1, 1, xs⟩, sdA d, sdB d, C, D, E]) (e1 : xs[j]? = some (sdV d)) (e2 : xs[j + 1]? = some (sdW d)) {o : OpC} (hO : o.Is w0) (hk : o.k = 7) (hb9 : bgE o.fr ≠ 0) :
    Calls Try.prog 8 #[.pointer (some ⟨sb, j, none⟩), .pointer (some ⟨hb, 0, none⟩), o.v] w (JoinsP w0 hb sb xs j C D E) := by
  obtain ⟨kk, on, ⟨x1, x2, x3, x4, x5, x6, xs', xt⟩, ⟨y1, y2, y3, y4, y5, y6, ys, yt⟩, mm, nn, ll, po, pn, pc, pf, qo, qn, qc, qs, tl⟩ := o
  obtain ⟨hX, hY, hF, hL, hM, hN, hLL, hBG⟩ := hO
  simp only at hk hX hY hF hL hb9
  subst hk
  have HOY := Lib.hid hY
  have HOF := Lib.hid hF
  simp only [OpC.v]
  obtain ⟨b, HB⟩ : ∃ z, Hid (w.heap.size = z) := ⟨_, rfl⟩
  obtain ⟨W, HW⟩ : ∃ z, Hid (w.alloc (.cells #[.int .i64 7, .int .i64 on, .slice x1 x2 x3, .slice x4 x5 x6, .slice y1 y2 y3, .slice y4 y5 y6, .int .i64 mm, .int .i64 nn, .int .i64 ll, .slice po pn pc, .slice qo qn qc, .bool tl] 47) = z) := ⟨_, rfl⟩
  have h1 := H.alloc 47 12 1 #[.int .i64 7, .int .i64 on, .slice x1 x2 x3, .slice x4 x5 x6, .slice y1 y2 y3, .slice y4 y5 y6, .int .i64 mm, .int .i64 nn, .int .i64 ll, .slice po pn pc, .slice qo qn qc, .bool tl] rfl (by decide)
  rw [HW.out, HB.out] at h1
  have H1_ := h1
  try simp only [List.cons_append, List.nil_append, List.set_cons_zero, List.set_cons_succ, List.map_cons, List.map_nil, List.getD_cons_zero, List.getD_cons_succ, World.size_alloc] at H1_
  have H1 := Lib.hid H1_
  clear H1_
  have E1 := Lib.hid e1
  have E2 := Lib.hid e2
  have HB9 := Lib.hid hb9
  clear h1 H hX hY hF hL hM hN hLL hBG e1 e2 hb9
  have x0 := H1.out.cell (i := 7) rfl 0 _ rfl
  go_enter Try.func8, Try.ntmps8
  go_upto_region 1 with fail
  rw [HW.out, HB.out]
  go_upto_region 2 with fail
  clear x0
  have HS0_ := H1.out.via (adrew1 W)
  try simp only [List.cons_append, List.nil_append, List.set_cons_zero, List.set_cons_succ, List.map_cons, List.map_nil, List.getD_cons_zero, List.getD_cons_succ, World.size_alloc] at HS0_
  have HS0 := Lib.hid HS0_
  clear HS0_
  have d9 := HS0.out.cell (i := 7) rfl 9 _ rfl
  have ca := HS0.out.intsF (i := 0) rfl HOF.out
  have CA := Lib.hid ca
  clear ca
  clear d9
  have d9 := H1.out.cell (i := 7) rfl 9 _ rfl
  go_region_held3 (fun wx => wx.cell? ⟨b, 9, none⟩ = some (.slice po pn pc)) (go_keep)
    (first
    | (go_at_call 32; (with_reducible refine Calls.mono CA.out ?_); rintro e w4 ⟨gf, df, rfl, hdf, h5⟩; clear d9; (have H4_ := h5; (try simp only [List.cons_append, List.nil_append, List.set_cons_zero, List.set_cons_succ, List.map_cons, List.map_nil, List.getD_cons_zero, List.getD_cons_succ, World.size_alloc] at H4_); have H4 := Lib.hid H4_; clear H4_); have HDF := Lib.hid hdf; clear h5 hdf CA; have d9 := H4.out.cell (i := 7) rfl 9 _ rfl; have cb := begin_bad (H4.out.isF (i := 0) rfl HOF.out HDF.out) HB9.out; have CB := Lib.hid cb; clear cb)
    | (go_at_call 25; (with_reducible refine Calls.mono CB.out ?_); rintro e w5 ⟨rfl, rfl⟩; have H5 := H4; clear d9; have d9 := H5.out.cell (i := 7) rfl 9 _ rfl))
  clear d9 CB
  go_upto_region 3 with fail
  have d9 := H5.out.cell (i := 7) rfl 9 _ rfl
  have H5d_ := H5.out.via (adrew1 w5)
  try simp only [List.cons_append, List.nil_append, List.set_cons_zero, List.set_cons_succ, List.map_cons, List.map_nil, List.getD_cons_zero, List.getD_cons_succ, World.size_alloc] at H5d_
  have H5d := Lib.hid H5d_
  clear H5d_
  have ck := H5d.out.keptF (i := 0) rfl HOF.out
  have CK := Lib.hid ck
  clear ck
  go_region_held3 (fun wx => wx.cell? ⟨b, 9, none⟩ = some (.slice po pn pc)) (go_keep)
    (first
    | (go_at_call 33; (with_reducible refine Calls.mono CK.out ?_); rintro e w6 ⟨rfl, h7⟩; clear d9; (have H6_ := h7; (try simp only [List.cons_append, List.nil_append, List.set_cons_zero, List.set_cons_succ, List.map_cons, List.map_nil, List.getD_cons_zero, List.getD_cons_succ, World.size_alloc] at H6_); have H6 := Lib.hid H6_; clear H6_); clear h7 CK; have d9 := H6.out.cell (i := 7) rfl 9 _ rfl))
  have CR := Lib.hid (rbegin_bad (HOF.out.below H6.out.belowN (Nat.le_refl _)) HB9.out)
  go_wp2_with fail
  refine CR.out.mono ?_; rintro e w7 ⟨rfl, rfl⟩
  have HF : Hid (JoinsP w0 hb sb xs j C D E (.returned (.bool true)) w7) := by
    refine ⟨rfl, d, ?_⟩
    rw [show (xs.set j (sdV d)).set (j + 1) (sdW d) = xs from by rw [set_at E1.out, set_at E2.out]]
    exact H6.out.pick [0, 1, 2, 3, 4, 5, 6] (by decide)
  clear d9 CR
  go_wp2
  exact bodyPost_ret (v := .bool true) (by simp [results, Try.results8, go_sem, *]) rfl HF.out
set_option maxRecDepth 100000 in
set_option maxHeartbeats 6400000 in
theorem joins_begin_ok {w0 w : World} {hb sb j : Nat} {xs : List Value} {d : Option Sd} {C D E : Pt} (H : Sp Non w0 w [Pt.hands hb none none none none, Pt.row ⟨42, 4, some ⟨sb, 0, none⟩, 1, 1, xs⟩, sdA d, sdB d, C, D, E]) (e1 : xs[j]? = some (sdV d)) (e2 : xs[j + 1]? = some (sdW d)) {o : OpC} (hO : o.Is w0) (hk : o.k = 7) (hb9 : bgE o.fr = 0) :
    Calls Try.prog 8 #[.pointer (some ⟨sb, j, none⟩), .pointer (some ⟨hb, 0, none⟩), o.v] w (JoinsP w0 hb sb xs j C D E) := by
  obtain ⟨kk, on, ⟨x1, x2, x3, x4, x5, x6, xs', xt⟩, ⟨y1, y2, y3, y4, y5, y6, ys, yt⟩, mm, nn, ll, po, pn, pc, pf, qo, qn, qc, qs, tl⟩ := o
  obtain ⟨hX, hY, hF, hL, hM, hN, hLL, hBG⟩ := hO
  simp only at hk hX hY hF hL hb9
  subst hk
  have HOY := Lib.hid hY
  have HOF := Lib.hid hF
  simp only [OpC.v]
  obtain ⟨b, HB⟩ : ∃ z, Hid (w.heap.size = z) := ⟨_, rfl⟩
  obtain ⟨W, HW⟩ : ∃ z, Hid (w.alloc (.cells #[.int .i64 7, .int .i64 on, .slice x1 x2 x3, .slice x4 x5 x6, .slice y1 y2 y3, .slice y4 y5 y6, .int .i64 mm, .int .i64 nn, .int .i64 ll, .slice po pn pc, .slice qo qn qc, .bool tl] 47) = z) := ⟨_, rfl⟩
  have h1 := H.alloc 47 12 1 #[.int .i64 7, .int .i64 on, .slice x1 x2 x3, .slice x4 x5 x6, .slice y1 y2 y3, .slice y4 y5 y6, .int .i64 mm, .int .i64 nn, .int .i64 ll, .slice po pn pc, .slice qo qn qc, .bool tl] rfl (by decide)
  rw [HW.out, HB.out] at h1
  have H1_ := h1
  try simp only [List.cons_append, List.nil_append, List.set_cons_zero, List.set_cons_succ, List.map_cons, List.map_nil, List.getD_cons_zero, List.getD_cons_succ, World.size_alloc] at H1_
  have H1 := Lib.hid H1_
  clear H1_
  have E1 := Lib.hid e1
  have E2 := Lib.hid e2
  have HB9 := Lib.hid hb9
  clear h1 H hX hY hF hL hM hN hLL hBG e1 e2 hb9
  have x0 := H1.out.cell (i := 7) rfl 0 _ rfl
  go_enter Try.func8, Try.ntmps8
  go_upto_region 1 with fail
  rw [HW.out, HB.out]
  go_upto_region 2 with fail
  clear x0
  have HS0_ := H1.out.via (adrew1 W)
  try simp only [List.cons_append, List.nil_append, List.set_cons_zero, List.set_cons_succ, List.map_cons, List.map_nil, List.getD_cons_zero, List.getD_cons_succ, World.size_alloc] at HS0_
  have HS0 := Lib.hid HS0_
  clear HS0_
  have d9 := HS0.out.cell (i := 7) rfl 9 _ rfl
  have ca := HS0.out.intsF (i := 0) rfl HOF.out
  have CA := Lib.hid ca
  clear ca
  clear d9
  have d9 := H1.out.cell (i := 7) rfl 9 _ rfl
  go_region_held3 (fun wx => wx.cell? ⟨b, 9, none⟩ = some (.slice po pn pc)) (go_keep)
    (first
    | (go_at_call 32; (with_reducible refine Calls.mono CA.out ?_); rintro e w4 ⟨gf, df, rfl, hdf, h5⟩; clear d9; (have H4_ := h5; (try simp only [List.cons_append, List.nil_append, List.set_cons_zero, List.set_cons_succ, List.map_cons, List.map_nil, List.getD_cons_zero, List.getD_cons_succ, World.size_alloc] at H4_); have H4 := Lib.hid H4_; clear H4_); have HDF := Lib.hid hdf; clear h5 hdf CA; have d9 := H4.out.cell (i := 7) rfl 9 _ rfl; have cb := begin_ok (H4.out.isF (i := 0) rfl HOF.out HDF.out) HB9.out; have CB := Lib.hid cb; clear cb)
    | (go_at_call 25; (with_reducible refine Calls.mono CB.out ?_); rintro e w5 ⟨g, rfl, h6⟩; (have H5_ := H4.out.add h6; (try simp only [List.cons_append, List.nil_append, List.set_cons_zero, List.set_cons_succ, List.map_cons, List.map_nil, List.getD_cons_zero, List.getD_cons_succ, World.size_alloc] at H5_); have H5 := Lib.hid H5_; clear H5_); clear h6; clear d9; have d9 := H5.out.cell (i := 7) rfl 9 _ rfl))
  clear d9 CB
  go_upto_region 3 with fail
  have d9 := H5.out.cell (i := 7) rfl 9 _ rfl
  have H5d_ := H5.out.via (adrew1 w5)
  try simp only [List.cons_append, List.nil_append, List.set_cons_zero, List.set_cons_succ, List.map_cons, List.map_nil, List.getD_cons_zero, List.getD_cons_succ, World.size_alloc] at H5d_
  have H5d := Lib.hid H5d_
  clear H5d_
  have ck := H5d.out.keptF (i := 0) rfl HOF.out
  have CK := Lib.hid ck
  clear ck
  go_region_held3 (fun wx => wx.cell? ⟨b, 9, none⟩ = some (.slice po pn pc)) (go_keep)
    (first
    | (go_at_call 33; (with_reducible refine Calls.mono CK.out ?_); rintro e w6 ⟨rfl, h7⟩; clear d9; (have H6_ := h7; (try simp only [List.cons_append, List.nil_append, List.set_cons_zero, List.set_cons_succ, List.map_cons, List.map_nil, List.getD_cons_zero, List.getD_cons_succ, World.size_alloc] at H6_); have H6 := Lib.hid H6_; clear H6_); clear h7 CK; have d9 := H6.out.cell (i := 7) rfl 9 _ rfl))
  have CR := Lib.hid (rbegin_ok (HOF.out.below H6.out.belowN (Nat.le_refl _)) HB9.out)
  go_wp2_with fail
  refine CR.out.mono ?_; rintro e w7 ⟨g2, rfl, h8⟩
  have H7_ := H6.out.add h8
  try simp only [List.cons_append, List.nil_append, List.set_cons_zero, List.set_cons_succ, List.map_cons, List.map_nil, List.getD_cons_zero, List.getD_cons_succ, World.size_alloc] at H7_
  have H7 := Lib.hid H7_
  clear H7_
  have q0 := H7.out.cell (i := 1) rfl j _ E1.out
  have q1 := H7.out.cell (i := 1) rfl (j + 1) _ E2.out
  have f0 := H7.out.frozen (i := 1) rfl j
  have f1 := H7.out.frozen (i := 1) rfl (j + 1)
  have HF : Hid (JoinsP w0 hb sb xs j C D E (.returned (.bool true)) ((w7.setCell ⟨sb, j, none⟩ (.pointer (some ⟨g, 0, none⟩))).setCell ⟨sb, j + 1, none⟩ (.pointer (some ⟨g2, 0, none⟩)))) := by
    refine ⟨rfl, some ⟨g, g2, pf, [], []⟩, ?_⟩
    exact ((H7.out.put (i := 1) rfl j (.pointer (some ⟨g, 0, none⟩))).put (i := 1) rfl (j + 1) (.pointer (some ⟨g2, 0, none⟩))).pick [0, 1, 8, 9, 4, 5, 6] (by decide)
  clear d9 CR h8
  go_wp2
  exact bodyPost_ret (v := .bool true) (by simp [results, Try.results8, go_sem, *]) rfl HF.out
set_option maxRecDepth 100000 in
set_option maxHeartbeats 6400000 in
theorem joins_none {w0 w : World} {hb sb j : Nat} {xs : List Value} {C D E : Pt} (H : Sp Non w0 w [Pt.hands hb none none none none, Pt.row ⟨42, 4, some ⟨sb, 0, none⟩, 1, 1, xs⟩, sdA none, sdB none, C, D, E]) (e1 : xs[j]? = some (sdV none)) (e2 : xs[j + 1]? = some (sdW none)) {o : OpC} (hO : o.Is w0) (hk : o.k = 8 ∨ o.k = 9) :
    Calls Try.prog 8 #[.pointer (some ⟨sb, j, none⟩), .pointer (some ⟨hb, 0, none⟩), o.v] w (JoinsP w0 hb sb xs j C D E) := by
  obtain ⟨kk, on, ⟨x1, x2, x3, x4, x5, x6, xs', xt⟩, ⟨y1, y2, y3, y4, y5, y6, ys, yt⟩, mm, nn, ll, po, pn, pc, pf, qo, qn, qc, qs, tl⟩ := o
  obtain ⟨hX, hY, hF, hL, hM, hN, hLL, hBG⟩ := hO
  simp only at hk hX hY hF hL
  have HOY := Lib.hid hY
  have HOF := Lib.hid hF
  simp only [OpC.v]
  obtain ⟨b, HB⟩ : ∃ z, Hid (w.heap.size = z) := ⟨_, rfl⟩
  obtain ⟨W, HW⟩ : ∃ z, Hid (w.alloc (.cells #[.int .i64 kk, .int .i64 on, .slice x1 x2 x3, .slice x4 x5 x6, .slice y1 y2 y3, .slice y4 y5 y6, .int .i64 mm, .int .i64 nn, .int .i64 ll, .slice po pn pc, .slice qo qn qc, .bool tl] 47) = z) := ⟨_, rfl⟩
  have h1 := H.alloc 47 12 1 #[.int .i64 kk, .int .i64 on, .slice x1 x2 x3, .slice x4 x5 x6, .slice y1 y2 y3, .slice y4 y5 y6, .int .i64 mm, .int .i64 nn, .int .i64 ll, .slice po pn pc, .slice qo qn qc, .bool tl] rfl (by decide)
  rw [HW.out, HB.out] at h1
  have H1_ := h1
  try simp only [List.cons_append, List.nil_append, List.set_cons_zero, List.set_cons_succ, List.map_cons, List.map_nil, List.getD_cons_zero, List.getD_cons_succ, World.size_alloc] at H1_
  have H1 := Lib.hid H1_
  clear H1_
  have E1 := Lib.hid e1
  have E2 := Lib.hid e2
  have hk7 : kk ≠ 7 := by rcases hk with h | h <;> rw [h] <;> decide
  have hk7' : (kk == 7) = false := by simpa using hk7
  clear h1 H hX hY hF hL hM hN hLL hBG e1 e2 hk
  have x0 := H1.out.cell (i := 7) rfl 0 _ rfl
  have q1 := H1.out.cell (i := 1) rfl (j + 1) _ E2.out
  simp only [sdW] at q1
  have HF : Hid (JoinsP w0 hb sb xs j C D E (.returned (.bool true)) W) := by
    refine ⟨rfl, none, ?_⟩
    rw [show (xs.set j (sdV none)).set (j + 1) (sdW none) = xs from by rw [set_at E1.out, set_at E2.out]]
    exact H1.out.pick [0, 1, 2, 3, 4, 5, 6] (by decide)
  go_enter Try.func8, Try.ntmps8
  go_upto_region 1 with fail
  rw [HW.out, HB.out]
  go_wp2
  exact bodyPost_ret (v := .bool true) (by simp [results, Try.results8, go_sem, *]) rfl HF.out
set_option maxRecDepth 100000 in
set_option maxHeartbeats 6400000 in
theorem joins_add {w0 w : World} {hb sb j : Nat} {xs : List Value} {g g2 : Nat} {fr c : List Int} {G : List (List Int × List Int)} {C D E : Pt} (H : Sp Non w0 w [Pt.hands hb none none none none, Pt.row ⟨42, 4, some ⟨sb, 0, none⟩, 1, 1, xs⟩, sdA (some ⟨g, g2, fr, c, G⟩), sdB (some ⟨g, g2, fr, c, G⟩), C, D, E]) (e1 : xs[j]? = some (sdV (some ⟨g, g2, fr, c, G⟩))) (e2 : xs[j + 1]? = some (sdW (some ⟨g, g2, fr, c, G⟩))) {o : OpC} (hO : o.Is w0) (hk : o.k = 8) :
    Calls Try.prog 8 #[.pointer (some ⟨sb, j, none⟩), .pointer (some ⟨hb, 0, none⟩), o.v] w (JoinsP w0 hb sb xs j C D E) := by
  obtain ⟨kk, on, ⟨x1, x2, x3, x4, x5, x6, xs', xt⟩, ⟨y1, y2, y3, y4, y5, y6, ys, yt⟩, mm, nn, ll, po, pn, pc, pf, qo, qn, qc, qs, tl⟩ := o
  obtain ⟨hX, hY, hF, hL, hM, hN, hLL, hBG⟩ := hO
  simp only at hk hX hY hF hL
  subst hk
  have HOY := Lib.hid hY
  have HOF := Lib.hid hF
  simp only [OpC.v]
  obtain ⟨b, HB⟩ : ∃ z, Hid (w.heap.size = z) := ⟨_, rfl⟩
  obtain ⟨W, HW⟩ : ∃ z, Hid (w.alloc (.cells #[.int .i64 8, .int .i64 on, .slice x1 x2 x3, .slice x4 x5 x6, .slice y1 y2 y3, .slice y4 y5 y6, .int .i64 mm, .int .i64 nn, .int .i64 ll, .slice po pn pc, .slice qo qn qc, .bool tl] 47) = z) := ⟨_, rfl⟩
  have h1 := H.alloc 47 12 1 #[.int .i64 8, .int .i64 on, .slice x1 x2 x3, .slice x4 x5 x6, .slice y1 y2 y3, .slice y4 y5 y6, .int .i64 mm, .int .i64 nn, .int .i64 ll, .slice po pn pc, .slice qo qn qc, .bool tl] rfl (by decide)
  rw [HW.out, HB.out] at h1
  simp only [sdA, sdB] at h1
  simp only [sdV] at e1
  simp only [sdW] at e2
  have H1_ := h1
  try simp only [List.cons_append, List.nil_append, List.set_cons_zero, List.set_cons_succ, List.map_cons, List.map_nil, List.getD_cons_zero, List.getD_cons_succ, World.size_alloc] at H1_
  have H1 := Lib.hid H1_
  clear H1_
  have E1 := Lib.hid e1
  have E2 := Lib.hid e2
  obtain ⟨vC, HvC⟩ : ∃ z, Hid (adNC fr c G ys yt = z) := ⟨_, rfl⟩
  obtain ⟨vG, HvG⟩ : ∃ z, Hid (adNG fr c G ys yt = z) := ⟨_, rfl⟩
  obtain ⟨vE, HvE⟩ : ∃ z, Hid (adE fr c G ys yt = z) := ⟨_, rfl⟩
  clear h1 H hX hY hF hL hM hN hLL hBG e1 e2
  have x0 := H1.out.cell (i := 7) rfl 0 _ rfl
  have q1 := H1.out.cell (i := 1) rfl (j + 1) _ E2.out
  go_enter Try.func8, Try.ntmps8
  go_upto_region 1 with fail
  rw [HW.out, HB.out]
  go_upto_region 13 with fail
  clear x0 q1
  have q0 := H1.out.cell (i := 1) rfl j _ E1.out
  have d4 := H1.out.cell (i := 7) rfl 4 _ rfl
  have d5 := H1.out.cell (i := 7) rfl 5 _ rfl
  have HS0_ := H1.out.via (adrew1 W)
  try simp only [List.cons_append, List.nil_append, List.set_cons_zero, List.set_cons_succ, List.map_cons, List.map_nil, List.getD_cons_zero, List.getD_cons_succ, World.size_alloc] at HS0_
  have HS0 := Lib.hid HS0_
  clear HS0_
  have ca := HS0.out.arrayY (i := 0) rfl HOY.out
  simp only [Ar.v] at ca
  have CA := Lib.hid ca
  clear ca
  go_region_held3 (fun wx => wx.cell? ⟨sb, j, none⟩ = some (.pointer (some ⟨g, 0, none⟩)) ∧ wx.cell? ⟨b, 4, none⟩ = some (.slice y1 y2 y3) ∧ wx.cell? ⟨b, 5, none⟩ = some (.slice y4 y5 y6)) (go_keep)
    (first
    | (go_at_call 35; (with_reducible refine Calls.mono CA.out ?_); rintro e w4 ⟨gy, dy, ky, ey, rfl, hdy, hey, h5⟩; clear q0 d4 d5 CA; (have H4_ := h5; (try simp only [List.cons_append, List.nil_append, List.set_cons_zero, List.set_cons_succ, List.map_cons, List.map_nil, List.getD_cons_zero, List.getD_cons_succ, World.size_alloc] at H4_); have H4 := Lib.hid H4_; clear H4_); clear h5; have q0 := H4.out.cell (i := 1) rfl j _ E1.out; have d4 := H4.out.cell (i := 7) rfl 4 _ rfl; have d5 := H4.out.cell (i := 7) rfl 5 _ rfl; obtain ⟨F, hF, hFs, hof, hput⟩ := H4.out.hole (i := 2) rfl; have cb := add4_any hF (H4.out.isY (i := 0) rfl HOY.out hdy hey) (Sp.offY (hof 0 _ (by decide) rfl) _ _); simp only [Ar.v] at cb; rw [HvC.out, HvG.out, HvE.out] at cb; have CB := Lib.hid cb; have HPUT := Lib.hid hput; clear cb hput hof hF hFs hdy hey)
    | (go_at_call 26; (with_reducible refine Calls.mono CB.out ?_); rintro e w5 ⟨rfl, F', hF', hs', ho'⟩; clear q0 d4 d5 CB; (have H5_ := HPUT.out w5 _ F' hF' hs' ho'; (try simp only [List.cons_append, List.nil_append, List.set_cons_zero, List.set_cons_succ, List.map_cons, List.map_nil, List.getD_cons_zero, List.getD_cons_succ, World.size_alloc] at H5_); have H5 := Lib.hid H5_; clear H5_); clear hF' hs' ho' HPUT; have q0 := H5.out.cell (i := 1) rfl j _ E1.out; have d4 := H5.out.cell (i := 7) rfl 4 _ rfl; have d5 := H5.out.cell (i := 7) rfl 5 _ rfl))
  clear q0 d4 d5
  go_upto_region 14 with fail
  have q1 := H5.out.cell (i := 1) rfl (j + 1) _ E2.out
  have d4 := H5.out.cell (i := 7) rfl 4 _ rfl
  have d5 := H5.out.cell (i := 7) rfl 5 _ rfl
  have H5d_ := H5.out.via (adrew1 w5)
  try simp only [List.cons_append, List.nil_append, List.set_cons_zero, List.set_cons_succ, List.map_cons, List.map_nil, List.getD_cons_zero, List.getD_cons_succ, World.size_alloc] at H5d_
  have H5d := Lib.hid H5d_
  clear H5d_
  have ck := H5d.out.keptY (i := 0) rfl HOY.out
  simp only [Ar.v] at ck
  have CK := Lib.hid ck
  clear ck
  go_region_held3 (fun wx => wx.cell? ⟨sb, j + 1, none⟩ = some (.pointer (some ⟨g2, 0, none⟩)) ∧ wx.cell? ⟨b, 4, none⟩ = some (.slice y1 y2 y3) ∧ wx.cell? ⟨b, 5, none⟩ = some (.slice y4 y5 y6)) (go_keep)
    (first
    | (go_at_call 36; (with_reducible refine Calls.mono CK.out ?_); rintro e w6 ⟨rfl, h5⟩; clear q1 d4 d5 CK; (have H6_ := h5; (try simp only [List.cons_append, List.nil_append, List.set_cons_zero, List.set_cons_succ, List.map_cons, List.map_nil, List.getD_cons_zero, List.getD_cons_succ, World.size_alloc] at H6_); have H6 := Lib.hid H6_; clear H6_); clear h5; have q1 := H6.out.cell (i := 1) rfl (j + 1) _ E2.out; have d4 := H6.out.cell (i := 7) rfl 4 _ rfl; have d5 := H6.out.cell (i := 7) rfl 5 _ rfl; obtain ⟨F, hF, hFs, -, hput⟩ := H6.out.hole (i := 3) rfl; have cb := radd4_any hF (HOY.out.below H6.out.belowN (Nat.le_refl _)) (HOY.out.off_old (fun k hk => (hFs k hk).elim (fun h => h.elim) id)); simp only [Ar.v] at cb; rw [HvC.out, HvG.out, HvE.out] at cb; have CB := Lib.hid cb; have HPUT := Lib.hid hput; clear cb hput hF hFs)
    | (go_at_call 37; (with_reducible refine Calls.mono CB.out ?_); rintro e w7 ⟨rfl, F', hF', hs', ho'⟩; clear q1 d4 d5 CB; (have H7_ := HPUT.out w7 _ F' hF' hs' ho'; (try simp only [List.cons_append, List.nil_append, List.set_cons_zero, List.set_cons_succ, List.map_cons, List.map_nil, List.getD_cons_zero, List.getD_cons_succ, World.size_alloc] at H7_); have H7 := Lib.hid H7_; clear H7_); clear hF' hs' ho' HPUT; have q1 := H7.out.cell (i := 1) rfl (j + 1) _ E2.out; have d4 := H7.out.cell (i := 7) rfl 4 _ rfl; have d5 := H7.out.cell (i := 7) rfl 5 _ rfl))
  have HF : Hid (JoinsP w0 hb sb xs j C D E (.returned (.bool true)) w7) := by
    refine ⟨rfl, some ⟨g, g2, fr, vC, vG⟩, ?_⟩
    show Sp Non w0 w7 [_, Pt.row ⟨_, 4, _, 1, 1, (xs.set j (.pointer (some ⟨g, 0, none⟩))).set (j + 1) (.pointer (some ⟨g2, 0, none⟩))⟩, _, _, _, _, _]
    rw [set_at E1.out, set_at E2.out]
    exact H7.out.pick [0, 1, 2, 3, 4, 5, 6] (by decide)
  clear q1 d4 d5
  go_wp2
  exact bodyPost_ret (v := .bool true) (by simp [results, Try.results8, go_sem, *]) rfl HF.out
set_option maxRecDepth 100000 in
set_option maxHeartbeats 6400000 in
theorem joins_done {w0 w : World} {hb sb j : Nat} {xs : List Value} {g g2 : Nat} {fr c : List Int} {G : List (List Int × List Int)} {C D E : Pt} (H : Sp Non w0 w [Pt.hands hb none none none none, Pt.row ⟨42, 4, some ⟨sb, 0, none⟩, 1, 1, xs⟩, sdA (some ⟨g, g2, fr, c, G⟩), sdB (some ⟨g, g2, fr, c, G⟩), C, D, E]) (e1 : xs[j]? = some (sdV (some ⟨g, g2, fr, c, G⟩))) (e2 : xs[j + 1]? = some (sdW (some ⟨g, g2, fr, c, G⟩))) {o : OpC} (hO : o.Is w0) (hk : o.k = 9) :
    Calls Try.prog 8 #[.pointer (some ⟨sb, j, none⟩), .pointer (some ⟨hb, 0, none⟩), o.v] w (JoinsP w0 hb sb xs j C D E) := by
  obtain ⟨kk, on, ⟨x1, x2, x3, x4, x5, x6, xs', xt⟩, ⟨y1, y2, y3, y4, y5, y6, ys, yt⟩, mm, nn, ll, po, pn, pc, pf, qo, qn, qc, qs, tl⟩ := o
  obtain ⟨hX, hY, hF, hL, hM, hN, hLL, hBG⟩ := hO
  simp only at hk hX hY hF hL
  subst hk
  have HOY := Lib.hid hY
  have HOF := Lib.hid hF
  simp only [OpC.v]
  obtain ⟨b, HB⟩ : ∃ z, Hid (w.heap.size = z) := ⟨_, rfl⟩
  obtain ⟨W, HW⟩ : ∃ z, Hid (w.alloc (.cells #[.int .i64 9, .int .i64 on, .slice x1 x2 x3, .slice x4 x5 x6, .slice y1 y2 y3, .slice y4 y5 y6, .int .i64 mm, .int .i64 nn, .int .i64 ll, .slice po pn pc, .slice qo qn qc, .bool tl] 47) = z) := ⟨_, rfl⟩
  have h1 := H.alloc 47 12 1 #[.int .i64 9, .int .i64 on, .slice x1 x2 x3, .slice x4 x5 x6, .slice y1 y2 y3, .slice y4 y5 y6, .int .i64 mm, .int .i64 nn, .int .i64 ll, .slice po pn pc, .slice qo qn qc, .bool tl] rfl (by decide)
  rw [HW.out, HB.out] at h1
  simp only [sdA, sdB] at h1
  simp only [sdV] at e1
  simp only [sdW] at e2
  have H1_ := h1
  try simp only [List.cons_append, List.nil_append, List.set_cons_zero, List.set_cons_succ, List.map_cons, List.map_nil, List.getD_cons_zero, List.getD_cons_succ, World.size_alloc] at H1_
  have H1 := Lib.hid H1_
  clear H1_
  have E1 := Lib.hid e1
  have E2 := Lib.hid e2
  obtain ⟨vS, HvS⟩ : ∃ z, Hid (dnS fr c G = z) := ⟨_, rfl⟩
  obtain ⟨vA, HvA⟩ : ∃ z, Hid (dnA fr c G = z) := ⟨_, rfl⟩
  obtain ⟨vE, HvE⟩ : ∃ z, Hid (dnE fr G = z) := ⟨_, rfl⟩
  clear h1 H hX hY hF hL hM hN hLL hBG e1 e2
  have x0 := H1.out.cell (i := 7) rfl 0 _ rfl
  have q0 := H1.out.cell (i := 1) rfl j _ E1.out
  have q1 := H1.out.cell (i := 1) rfl (j + 1) _ E2.out
  obtain ⟨F, hF, hFs, -, hput⟩ := H1.out.hole2 (i := 2) rfl
  have cb := done_any hF
  rw [HvS.out, HvA.out, HvE.out] at cb
  have CB := Lib.hid cb
  have HPUT := Lib.hid hput
  clear cb hput hF hFs
  go_enter Try.func8, Try.ntmps8
  go_upto_region 1 with fail
  rw [HW.out, HB.out]
  go_wp2_with fail
  refine CB.out.mono ?_; rintro e w4 ⟨B1, rfl, hs1, ha1, h5⟩
  obtain ⟨W4, HW4⟩ : ∃ z, Hid (w4.alloc (.cells #[.slice B1.sa B1.sn B1.sc, .slice B1.aa B1.an B1.ac] 45) = z) := ⟨_, rfl⟩
  have h6 := (HPUT.out w4 _ h5).alloc 45 2 1 #[.slice B1.sa B1.sn B1.sc, .slice B1.aa B1.an B1.ac] rfl (by decide)
  obtain ⟨b4, HB4⟩ : ∃ z, Hid (w4.heap.size = z) := ⟨_, rfl⟩
  rw [HW4.out, HB4.out] at h6
  have H4_ := h6
  try simp only [List.cons_append, List.nil_append, List.set_cons_zero, List.set_cons_succ, List.map_cons, List.map_nil, List.getD_cons_zero, List.getD_cons_succ, World.size_alloc] at H4_
  have H4 := Lib.hid H4_
  clear H4_
  clear h6 h5 HPUT CB x0 q0 q1
  have q1 := H4.out.cell (i := 1) rfl (j + 1) _ E2.out
  obtain ⟨F, hF, hFs, -, hput⟩ := H4.out.hole2 (i := 3) rfl
  have cb := rdone_any hF
  rw [HvS.out, HvA.out, HvE.out] at cb
  have CB := Lib.hid cb
  have HPUT := Lib.hid hput
  clear cb hput hF hFs
  simp only [Ar.v]
  go_upto_region 16 with fail
  rw [HW4.out, HB4.out]
  go_wp2_with fail
  refine CB.out.mono ?_; rintro e w5 ⟨B2, rfl, hs2, ha2, h5⟩
  obtain ⟨W5, HW5⟩ : ∃ z, Hid (w5.alloc (.cells #[.slice B2.sa B2.sn B2.sc, .slice B2.aa B2.an B2.ac] 45) = z) := ⟨_, rfl⟩
  have h6 := (HPUT.out w5 _ h5).alloc 45 2 1 #[.slice B2.sa B2.sn B2.sc, .slice B2.aa B2.an B2.ac] rfl (by decide)
  obtain ⟨b5, HB5⟩ : ∃ z, Hid (w5.heap.size = z) := ⟨_, rfl⟩
  rw [HW5.out, HB5.out] at h6
  have H5_ := h6
  try simp only [List.cons_append, List.nil_append, List.set_cons_zero, List.set_cons_succ, List.map_cons, List.map_nil, List.getD_cons_zero, List.getD_cons_succ, World.size_alloc] at H5_
  have H5 := Lib.hid H5_
  clear H5_
  clear h6 h5 HPUT CB q1
  simp only [Ar.v]
  go_upto_region 17 with fail
  rw [HW5.out, HB5.out]
  have p0 := H5.out.cell (i := 10) rfl 0 _ rfl
  have p1 := H5.out.cell (i := 10) rfl 1 _ rfl
  have r0 := H5.out.cell (i := 13) rfl 0 _ rfl
  have r1 := H5.out.cell (i := 13) rfl 1 _ rfl
  have ce := eq4_self (H5.out.isA (i := 9) rfl) (H5.out.isA (i := 12) rfl) (hs1.trans hs2.symm) (ha1.trans ha2.symm)
  simp only [Ar.v] at ce
  have CE := Lib.hid ce
  clear ce
  go_wp2_with fail
  refine CE.out.mono ?_; rintro e w6 ⟨rfl, hb6⟩
  have HF : Hid (JoinsP w0 hb sb xs j C D E (.returned (.bool true)) w6) := by
    refine ⟨rfl, some ⟨g, g2, fr, c, G⟩, ?_⟩
    show Sp Non w0 w6 [_, Pt.row ⟨_, 4, _, 1, 1, (xs.set j (.pointer (some ⟨g, 0, none⟩))).set (j + 1) (.pointer (some ⟨g2, 0, none⟩))⟩, _, _, _, _, _]
    rw [set_at E1.out, set_at E2.out]
    exact (H5.out.via hb6).pick [0, 1, 8, 11, 4, 5, 6] (by decide)
  clear p0 p1 r0 r1 hb6 CE
  go_wp2
  exact bodyPost_ret (v := .bool true) (by simp [results, Try.results8, go_sem, *]) rfl HF.out
end Go.Proofs.Ythackmkdicpdeaa
namespace Go.Proofs.Ythackmkdicpdeaa
open Go.RowKit Go.Lib
set_option linter.unusedVariables false
set_option linter.unusedSimpArgs false
attribute [local go_sem] alloc_drewN setCell_drewN
set_option maxRecDepth 100000 in
set_option maxHeartbeats 1600000 in
theorem size4_any {w : World} {A : Ar} (hA : A.Is w) : Calls Try.prog 31 #[A.v] w (RetB w (.int .i64 ((A.sn : Int) + A.an))) := by
  obtain ⟨sa, sn, sc, aa, an, ac, s, a⟩ := A
  have b1 := hA.shp.big
  have b2 := hA.ats.big
  simp only [Ar.v] at b1 b2 ⊢
  clear hA
  go_enter Try.func31, Try.ntmps31
  go_wp2
  go_ret
  exact RetB.mk rfl (abal _ _)
/-- How much a call is handed. -/
def SizeC (w : World) (e : Ending) (w' : World) : Prop := ∃ N : Int, e = .returned (.int .i64 N) ∧ 0 ≤ N ∧ N ≤ 140737488355328 ∧ Below w.heap.size w w'
set_option maxRecDepth 100000 in
set_option maxHeartbeats 3200000 in
theorem sizec_any {w : World} {o : OpC} (hO : o.Is w) : Calls Try.prog 7 #[o.v] w (SizeC w) := by
  obtain ⟨kk, on, ⟨x1, x2, x3, x4, x5, x6, xs, xt⟩, ⟨y1, y2, y3, y4, y5, y6, ys, yt⟩, mm, nn, ll, po, pn, pc, pf, qo, qn, qc, qs, tl⟩ := o
  obtain ⟨hX, hY, hF, hL, hM, hN, hLL, hBG⟩ := hO
  simp only at hX hY hF hL hBG
  have b1 := hX.shp.big
  have b2 := hX.ats.big
  have b3 := hY.shp.big
  have b4 := hY.ats.big
  have b5 := hF.big
  simp only at b1 b2 b3 b4
  have HOX := Lib.hid hX
  have HOY := Lib.hid hY
  have HOL := Lib.hid hL
  simp only [OpC.v]
  obtain ⟨b, HB⟩ : ∃ z, Hid (w.heap.size = z) := ⟨_, rfl⟩
  obtain ⟨W, HW⟩ : ∃ z, Hid (w.alloc (.cells #[.int .i64 kk, .int .i64 on, .slice x1 x2 x3, .slice x4 x5 x6, .slice y1 y2 y3, .slice y4 y5 y6, .int .i64 mm, .int .i64 nn, .int .i64 ll, .slice po pn pc, .slice qo qn qc, .bool tl] 47) = z) := ⟨_, rfl⟩
  have h1 := (Sp.start Non w).alloc 47 12 1 #[.int .i64 kk, .int .i64 on, .slice x1 x2 x3, .slice x4 x5 x6, .slice y1 y2 y3, .slice y4 y5 y6, .int .i64 mm, .int .i64 nn, .int .i64 ll, .slice po pn pc, .slice qo qn qc, .bool tl] rfl (by decide)
  rw [HW.out, HB.out] at h1
  have H1_ := h1
  try simp only [List.cons_append, List.nil_append, List.set_cons_zero, List.set_cons_succ, List.map_cons, List.map_nil, List.getD_cons_zero, List.getD_cons_succ, World.size_alloc] at H1_
  have H1 := Lib.hid H1_
  clear H1_
  clear h1 hX hY hF hL hM hN hLL
  have CX := Lib.hid (size4_any (HOX.out.below (H1.out.via (adrew1 W)).belowN (Nat.le_refl _)))
  simp only [Ar.v] at CX
  have d2 := H1.out.cell (i := 0) rfl 2 _ rfl
  have d3 := H1.out.cell (i := 0) rfl 3 _ rfl
  have d4 := H1.out.cell (i := 0) rfl 4 _ rfl
  have d5 := H1.out.cell (i := 0) rfl 5 _ rfl
  have d9 := H1.out.cell (i := 0) rfl 9 _ rfl
  go_enter Try.func7, Try.ntmps7
  go_upto_region 1 with fail
  rw [HW.out, HB.out]
  go_region_held3 (fun v => v.cell? ⟨b, 2, none⟩ = some (.slice x1 x2 x3) ∧ v.cell? ⟨b, 3, none⟩ = some (.slice x4 x5 x6) ∧ v.cell? ⟨b, 4, none⟩ = some (.slice y1 y2 y3) ∧ v.cell? ⟨b, 5, none⟩ = some (.slice y4 y5 y6) ∧ v.cell? ⟨b, 9, none⟩ = some (.slice po pn pc)) (go_keep)
    (first
    | (go_at_call 31; (with_reducible refine Calls.mono CX.out ?_); rintro e w1 ⟨rfl, hb1⟩; have H2 := Lib.hid ((H1.out.via (adrew1 W)).via hb1); have cy := size4_any (HOY.out.below H2.out.belowN (Nat.le_refl _)); simp only [Ar.v] at cy; have CY := Lib.hid cy; clear cy hb1 CX d2 d3 d4 d5 d9; have d2 := H2.out.cell (i := 0) rfl 2 _ rfl; have d3 := H2.out.cell (i := 0) rfl 3 _ rfl; have d4 := H2.out.cell (i := 0) rfl 4 _ rfl; have d5 := H2.out.cell (i := 0) rfl 5 _ rfl; have d9 := H2.out.cell (i := 0) rfl 9 _ rfl)
    | (have hreq := CY; go_at_call 31; (with_reducible refine Calls.mono CY.out ?_); rintro e w2 ⟨rfl, hb2⟩; have H3 := Lib.hid (H2.out.via hb2); clear hb2 CY hreq d2 d3 d4 d5 d9; have d2 := H3.out.cell (i := 0) rfl 2 _ rfl; have d3 := H3.out.cell (i := 0) rfl 3 _ rfl; have d4 := H3.out.cell (i := 0) rfl 4 _ rfl; have d5 := H3.out.cell (i := 0) rfl 5 _ rfl; have d9 := H3.out.cell (i := 0) rfl 9 _ rfl))
  clear d2 d3 d4 d5 d9
  go_wp2_with fail
  go_loopw [3, 4] (fun v3 v4 wr => ∃ (N : Int) (i : Nat), i ≤ qn ∧ 0 ≤ N ∧ N ≤ 140737488355328 ∧ v3 = .int .i64 N ∧ v4 = .int .i64 i ∧ Hid (Sp Non w wr [Pt.row ⟨47, 12, some ⟨b, 0, none⟩, 1, 1, [.int .i64 kk, .int .i64 on, .slice x1 x2 x3, .slice x4 x5 x6, .slice y1 y2 y3, .slice y4 y5 y6, .int .i64 mm, .int .i64 nn, .int .i64 ll, .slice po pn pc, .slice qo qn qc, .bool tl]⟩])) (fun _ v4 _ => qn - (RowKit.intOf v4).toNat)
  case atStart => exact ⟨(x2 : Int) + x5 + (y2 + y5) + pn, 0, Nat.zero_le _, by omega, by omega, by rw [show IntKind.i64.wrap ((x2 : Int) + x5 + (y2 + y5)) = (x2 : Int) + x5 + (y2 + y5) from IntWalk.i64_in _ (by omega), IntWalk.i64_in _ (by omega)], rfl, H3⟩
  case round =>
    obtain ⟨N, i, hi, hN0, hN1, rfl, rfl, HS⟩ := hrel
    have d10 := HS.out.cell (i := 0) rfl 10 _ rfl
    by_cases hlt : i < qn
    · have hlt' : (i : Int) < qn := by omega
      by_cases hsm : N < 4194304
      · obtain ⟨lb, lo, rfl, hlb, hcs⟩ := HOL.out.mem (by omega)
        obtain ⟨A, hAi⟩ : ∃ A, qs[i]? = some A := ⟨_, List.getElem?_eq_getElem (by rw [HOL.out.len]; exact hlt)⟩
        obtain ⟨dl0, dl1⟩ := hcs i A hAi
        have hAI := HOL.out.all i A hAi
        rw [← Nat.add_assoc] at dl1
        have a1 := hAI.shp.big
        have a2 := hAI.ats.big
        have cs := size4_any (hAI.below HS.out.belowN (Nat.le_refl _))
        obtain ⟨sa, sn, sc, aa, an, ac, s, a⟩ := A
        simp only [Ar.v] at cs dl0 dl1 a1 a2
        have CS := Lib.hid cs
        have dl := (HS.out.belowN.cell (p := ⟨lb, lo + i * 2, none⟩) hlb).trans dl0
        have dm := (HS.out.belowN.cell (p := ⟨lb, lo + i * 2 + 1, none⟩) hlb).trans dl1
        clear cs dl0 dl1 hcs hAI hAi
        go_wp2_with fail
        refine CS.out.mono ?_; rintro e w5 ⟨rfl, hb5⟩
        have H5 := Lib.hid (HS.out.via hb5)
        clear hb5 CS dl dm d10
        go_wp2
        go_roundw
        case rel => exact ⟨N + 10 + ((sn : Int) + an), i + 1, by omega, by omega, by omega, by go_num, by go_num, H5⟩
        case measure => simp [RowKit.intOf]; omega
      · have hsm' : ¬ (N < 4194304) := hsm
        go_wp2
        go_ret
        exact ⟨N, rfl, hN0, hN1, HS.out.belowN⟩
    · have hge : (qn : Int) ≤ i := by omega
      go_wp2
      go_ret
      exact ⟨N, rfl, hN0, hN1, HS.out.belowN⟩
set_option maxRecDepth 100000 in
set_option maxHeartbeats 1600000 in
theorem overc_any {w0 w : World} {L : List Pt} {k wb : Nat} {n N : Int} (H : Sp Non w0 w L) (e : L[k]? = some (Pt.row ⟨37, 1, some ⟨wb, 0, none⟩, 1, 1, [.int .i64 n]⟩)) (hn : 0 ≤ n ∧ n ≤ 4194304) (hN : 0 ≤ N ∧ N ≤ 140737488355328) :
    Calls Try.prog 6 #[.pointer (some ⟨wb, 0, none⟩), .int .i64 N] w (fun e' w' => e' = .returned (.bool (decide (4194304 < n + 100 + N))) ∧ Sp Non w0 w' (L.set k (Pt.row ⟨37, 1, some ⟨wb, 0, none⟩, 1, 1, [.int .i64 (n + 100 + N)]⟩))) := by
  have d0 := H.cell e 0 _ rfl
  have f0 := H.frozen e 0
  have HP := Lib.hid (H.put e 0 (.int .i64 (n + 100 + N)))
  clear H e
  go_enter Try.func6, Try.ntmps6
  go_wp2
  go_ret
  exact ⟨rfl, HP.out⟩
set_option maxRecDepth 100000 in
set_option maxHeartbeats 3200000 in
theorem cplays_no {w0 w : World} {hb : Nat} {G : Pt} (H : Sp Non w0 w [Pt.hands hb none none none none, G]) {o : OpC} (hk : o.k ≠ 1 ∧ o.k ≠ 2 ∧ o.k ≠ 3 ∧ o.k ≠ 4 ∧ o.k ≠ 5 ∧ o.k ≠ 6) : Calls Try.prog 9 #[.pointer (some ⟨hb, 0, none⟩), o.v] w (PlaysP w0 hb G) := by
  obtain ⟨kk, on, ⟨x1, x2, x3, x4, x5, x6, xs, xt⟩, ⟨y1, y2, y3, y4, y5, y6, ys, yt⟩, mm, nn, ll, po, pn, pc, pf, qo, qn, qc, qs, tl⟩ := o
  simp only at hk
  obtain ⟨k1, k2, k3, k4, k5, k6⟩ := hk
  simp only [OpC.v]
  obtain ⟨b, HB⟩ : ∃ z, Hid (w.heap.size = z) := ⟨_, rfl⟩
  obtain ⟨W, HW⟩ : ∃ z, Hid (w.alloc (.cells #[.int .i64 kk, .int .i64 on, .slice x1 x2 x3, .slice x4 x5 x6, .slice y1 y2 y3, .slice y4 y5 y6, .int .i64 mm, .int .i64 nn, .int .i64 ll, .slice po pn pc, .slice qo qn qc, .bool tl] 47) = z) := ⟨_, rfl⟩
  have h1 := H.alloc 47 12 1 #[.int .i64 kk, .int .i64 on, .slice x1 x2 x3, .slice x4 x5 x6, .slice y1 y2 y3, .slice y4 y5 y6, .int .i64 mm, .int .i64 nn, .int .i64 ll, .slice po pn pc, .slice qo qn qc, .bool tl] rfl (by decide)
  rw [HW.out, HB.out] at h1
  have H1_ := h1
  try simp only [List.cons_append, List.nil_append, List.set_cons_zero, List.set_cons_succ, List.map_cons, List.map_nil, List.getD_cons_zero, List.getD_cons_succ, World.size_alloc] at H1_
  have H1 := Lib.hid H1_
  clear H1_
  have x0 := H1.out.cell (i := 2) rfl 0 _ rfl
  have HF : Hid (PlaysP w0 hb G (.returned (.bool true)) W) := ⟨rfl, H1.out.pick [0, 1] (by decide)⟩
  have c1 : (kk == 1) = false := by simpa using k1
  have c2 : (kk == 2) = false := by simpa using k2
  have c3 : (kk == 3) = false := by simpa using k3
  have c4 : (kk == 4) = false := by simpa using k4
  have c5 : (kk == 5) = false := by simpa using k5
  have c6 : (kk == 6) = false := by simpa using k6
  clear h1 H k1 k2 k3 k4 k5 k6
  go_enter Try.func9, Try.ntmps9
  go_upto_region 1 with fail
  rw [HW.out, HB.out]
  go_wp2
  exact bodyPost_ret (v := .bool true) (by simp [results, Try.results9, go_sem, *]) rfl HF.out
theorem cplays_any {w0 w : World} {hb : Nat} {G : Pt} (H : Sp Non w0 w [Pt.hands hb none none none none, G]) {o : OpC} (hO : o.Is w0) : Calls Try.prog 9 #[.pointer (some ⟨hb, 0, none⟩), o.v] w (PlaysP w0 hb G) := by
  by_cases k1 : o.k = 1
  · exact cplays_1 H hO k1
  by_cases k2 : o.k = 2
  · exact cplays_2 H hO k2
  by_cases k3 : o.k = 3
  · exact cplays_3 H hO k3
  by_cases k4 : o.k = 4
  · exact cplays_4 H hO k4
  by_cases k5 : o.k = 5
  · exact cplays_5 H hO k5
  by_cases k6 : o.k = 6
  · exact cplays_6 H hO k6
  exact cplays_no H ⟨k1, k2, k3, k4, k5, k6⟩
theorem joins_any {w0 w : World} {hb sb j : Nat} {xs : List Value} {d : Option Sd} {C D E : Pt} (H : Sp Non w0 w [Pt.hands hb none none none none, Pt.row ⟨42, 4, some ⟨sb, 0, none⟩, 1, 1, xs⟩, sdA d, sdB d, C, D, E]) (e1 : xs[j]? = some (sdV d)) (e2 : xs[j + 1]? = some (sdW d)) {o : OpC} (hO : o.Is w0) (hk : 7 ≤ o.k ∧ o.k ≤ 9) :
    Calls Try.prog 8 #[.pointer (some ⟨sb, j, none⟩), .pointer (some ⟨hb, 0, none⟩), o.v] w (JoinsP w0 hb sb xs j C D E) := by
  by_cases k7 : o.k = 7
  · by_cases hb9 : bgE o.fr = 0
    · exact joins_begin_ok H e1 e2 hO k7 hb9
    · exact joins_begin_bad H e1 e2 hO k7 hb9
  have h89 : o.k = 8 ∨ o.k = 9 := by omega
  cases d with
  | none => exact joins_none H e1 e2 hO h89
  | some d =>
    rcases h89 with h | h
    · exact joins_add H e1 e2 hO h
    · exact joins_done H e1 e2 hO h
/-- No row is held yet. -/
def hnC (t : Nat × Nat × Nat) : Rw := if t = (0, 4, 0) then ⟨30, 2, none, 0, 0, []⟩ else if t = (0, 5, 0) then ⟨45, 2, none, 0, 0, []⟩ else if t = (0, 1, 1) ∨ t = (0, 2, 1) then ⟨2, 1, none, 0, 0, []⟩ else if t = (0, 1, 0) ∨ t = (0, 2, 0) ∨ t = (0, 3, 0) then ⟨3, 1, none, 0, 0, []⟩ else Rw.nil
theorem hnC_v (t : Nat × Nat × Nat) : (hnC t).v = .slice none 0 0 := by
  unfold hnC
  split <;> (try split) <;> (try split) <;> (try split) <;> rfl
theorem hnC_hold (w : World) : Hold w.heap.size w hnC := by
  refine ⟨fun t => ?_, fun t s _ g hg => absurd hg (by rw [hnC_v]; simp [Value.ownBlock]), Nat.le_refl _⟩
  unfold hnC
  split <;> (try split) <;> (try split) <;> (try split) <;> exact World.ownsRow_nil _ _ _ _
theorem hands_new {w w1 : World} (hb : Below w.heap.size w w1) : Sp Non w (w1.alloc (.cells #[.slice none 0 0, .slice none 0 0, .slice none 0 0, .slice none 0 0, .slice none 0 0, .slice none 0 0, .slice none 0 0] 34)) [Pt.hands w1.heap.size none none none none] := by
  have h1 : Hold w.heap.size w1 hnC := (hnC_hold w).via hb
  have h2 := h1.alloc (0, 0, 0) (cs := #[.slice none 0 0, .slice none 0 0, .slice none 0 0, .slice none 0 0, .slice none 0 0, .slice none 0 0, .slice none 0 0]) (E := 34) (sz := 7) (n := 1) rfl (by decide)
  refine Sp.toHold h2 (hb.trans ((abal _ _).mono hb.size)) (fun t ht => ?_) ?_
  · rw [updR_ne (fun e => by rw [e] at ht; simp at ht)]
    unfold hnC
    rw [if_neg (fun e => by rw [e] at ht; simp at ht), if_neg (fun e => by rw [e] at ht; simp at ht), if_neg (fun e => by rcases e with e | e <;> rw [e] at ht <;> simp at ht), if_neg (fun e => by rcases e with e | e | e <;> rw [e] at ht <;> simp at ht)]
  · have q : ∀ a b c, (a, b, c) ≠ ((0, 0, 0) : Nat × Nat × Nat) → updR hnC (0, 0, 0) ⟨34, 7, some ⟨w1.heap.size, 0, none⟩, 1, 1, [.slice none 0 0, .slice none 0 0, .slice none 0 0, .slice none 0 0, .slice none 0 0, .slice none 0 0, .slice none 0 0]⟩ (a, b, c) = hnC (a, b, c) := fun a b c h => updR_ne h
    show HnC w1.heap.size none none none none _
    refine ⟨?_, ?_, ?_, ?_, ?_, ?_, ?_, ?_, ?_, fun r e => absurd e (by simp), fun r e => absurd e (by simp), fun r e => absurd e (by simp), fun r e => absurd e (by simp)⟩
    · rw [updR_eq, q 0 1 0 (by simp), q 0 1 1 (by simp), q 0 2 0 (by simp), q 0 2 1 (by simp), q 0 3 0 (by simp), q 0 4 0 (by simp), q 0 5 0 (by simp)]
      simp only [hnC_v]
    · rw [q 0 1 0 (by simp)]; exact ⟨none, 0, [], rfl⟩
    · rw [q 0 1 1 (by simp)]; exact ⟨none, 0, [], rfl⟩
    · rw [q 0 2 0 (by simp)]; exact ⟨none, 0, [], rfl⟩
    · rw [q 0 2 1 (by simp)]; exact ⟨none, 0, [], rfl⟩
    · rw [q 0 3 0 (by simp)]; exact ⟨none, 0, [], rfl⟩
    · exact ⟨none, 0, 0, by rw [q 0 4 0 (by simp)]; rfl, fun k hk => absurd hk (Nat.not_lt_zero _)⟩
    · exact ⟨none, 0, 0, [], by rw [q 0 5 0 (by simp)]; rfl⟩
    · rw [q 9 9 0 (by simp), q 9 9 1 (by simp)]; exact ⟨rfl, rfl⟩
set_option maxRecDepth 100000 in
set_option maxHeartbeats 6400000 in
theorem cellall_any {w : World} {ao : Option Addr} {n c : Nat} {os : Nat → OpC} (hO : OpsC w ao n c os) :
    Calls Try.prog 3 #[.slice ao n c] w (RetB w (.bool true)) := by
  have BG := Lib.hid (begun4_any w)
  have hbig := hO.big
  have HOP := Lib.hid hO
  clear hO
  go_enter Try.func3, Try.ntmps3
  go_wp2_with fail
  refine BG.out.mono ?_; rintro e w1 ⟨rfl, hb1⟩
  obtain ⟨W2, HW2⟩ : ∃ z, Hid (((w1.alloc (.cells #[.slice none 0 0, .slice none 0 0, .slice none 0 0, .slice none 0 0, .slice none 0 0, .slice none 0 0, .slice none 0 0] 34)).alloc (.cells #[.int .i64 0] 37)).alloc (.cells #[.pointer none, .pointer none, .pointer none, .pointer none] 42) = z) := ⟨_, rfl⟩
  have HS0_ := (((hands_new hb1).alloc 37 1 1 #[.int .i64 0] rfl (by decide)).alloc 42 4 1 #[.pointer none, .pointer none, .pointer none, .pointer none] rfl (by decide)).pick [0, 2, 3, 4, 5, 6, 1] (by decide)
  try simp only [List.cons_append, List.nil_append, List.set_cons_zero, List.set_cons_succ, List.map_cons, List.map_nil, List.getD_cons_zero, List.getD_cons_succ, World.size_alloc] at HS0_
  have HS0 := Lib.hid HS0_
  clear HS0_
  obtain ⟨hb, Hhb⟩ : ∃ z, Hid (w1.heap.size = z) := ⟨_, rfl⟩
  go_upto_region 6 with fail
  rw [HW2.out] at HS0 ⊢
  rw [Hhb.out] at HS0 ⊢
  obtain ⟨wb, Hwb⟩ : ∃ z, Hid (hb + 1 = z) := ⟨_, rfl⟩
  obtain ⟨sb, Hsb⟩ : ∃ z, Hid (hb + 1 + 1 = z) := ⟨_, rfl⟩
  have HS : Hid (∃ a0 a1, Sp Non w W2 [Pt.hands hb none none none none, Pt.row ⟨42, 4, some ⟨sb, 0, none⟩, 1, 1, [sdV a0, sdW a0, sdV a1, sdW a1]⟩, sdA a0, sdB a0, sdA a1, sdB a1, Pt.row ⟨37, 1, some ⟨wb, 0, none⟩, 1, 1, [.int .i64 0]⟩]) := ⟨none, none, by rw [← Hwb.out, ← Hsb.out]; exact HS0.out⟩
  clear HS0
  go_wp2_with fail
  rw [Hsb.out, Hwb.out]
  go_loopw [6] (fun v6 wr => ∃ (k : Nat) (n0 : Int), k ≤ n ∧ v6 = .int .i64 k ∧ 0 ≤ n0 ∧ n0 ≤ 4194304 ∧ Hid (∃ a0 a1, Sp Non w wr [Pt.hands hb none none none none, Pt.row ⟨42, 4, some ⟨sb, 0, none⟩, 1, 1, [sdV a0, sdW a0, sdV a1, sdW a1]⟩, sdA a0, sdB a0, sdA a1, sdB a1, Pt.row ⟨37, 1, some ⟨wb, 0, none⟩, 1, 1, [.int .i64 n0]⟩])) (fun v6 _ => n - (RowKit.intOf v6).toNat)
  case atStart => exact ⟨0, 0, Nat.zero_le _, rfl, by omega, by omega, HS⟩
  case round =>
    clear HS HW2 hb1 BG
    obtain ⟨k, n0, hk, rfl, hn1, hn2, HS⟩ := hrel
    obtain ⟨a0, a1, hs⟩ := HS.out
    have HSP := Lib.hid hs
    clear hs
    by_cases hlt : k < n
    · have hlt' : (k : Int) < n := by omega
      obtain ⟨b, off, rfl, hbl, hcs⟩ := HOP.out.mem (by omega)
      have hck := hcs k hlt
      have HOI := Lib.hid (HOP.out.ops k hlt)
      obtain ⟨o, HOK⟩ : ∃ o, Hid (os k = o) := ⟨_, rfl⟩
      rw [HOK.out] at hck HOI
      have CZ := Lib.hid (sizec_any (o := o) (w := wr) (by
        obtain ⟨u1, u2, u3, u4, u5, u6, u7, u8⟩ := HOI.out
        have hb := HSP.out.belowN
        exact ⟨u1.below hb (Nat.le_refl _), u2.below hb (Nat.le_refl _), u3.below hb (Nat.le_refl _), u4.below hb (Nat.le_refl _), u5, u6, u7, u8⟩))
      obtain ⟨kk, on, ⟨x1, x2, x3, x4, x5, x6, xs, xt⟩, ⟨y1, y2, y3, y4, y5, y6, ys, yt⟩, mm, nn, ll, po, pn, pc, pf, qo, qn, qc, qs, tl⟩ := o
      simp only [OpC.v] at CZ
      simp only [OpC.cells] at hck
      have HSC : Hid (∀ wy, Below w.heap.size w wy → wy.cell? ⟨b, off + k * 12, none⟩ = some (.int .i64 kk) ∧ wy.cell? ⟨b, off + k * 12 + 1, none⟩ = some (.int .i64 on) ∧ wy.cell? ⟨b, off + k * 12 + 2, none⟩ = some (.slice x1 x2 x3) ∧ wy.cell? ⟨b, off + k * 12 + 3, none⟩ = some (.slice x4 x5 x6) ∧ wy.cell? ⟨b, off + k * 12 + 4, none⟩ = some (.slice y1 y2 y3) ∧ wy.cell? ⟨b, off + k * 12 + 5, none⟩ = some (.slice y4 y5 y6) ∧ wy.cell? ⟨b, off + k * 12 + 6, none⟩ = some (.int .i64 mm) ∧ wy.cell? ⟨b, off + k * 12 + 7, none⟩ = some (.int .i64 nn) ∧ wy.cell? ⟨b, off + k * 12 + 8, none⟩ = some (.int .i64 ll) ∧ wy.cell? ⟨b, off + k * 12 + 9, none⟩ = some (.slice po pn pc) ∧ wy.cell? ⟨b, off + k * 12 + 10, none⟩ = some (.slice qo qn qc) ∧ wy.cell? ⟨b, off + k * 12 + 11, none⟩ = some (.bool tl)) := by
        intro wy hy
        have f := fun j v hj => (hy.cell (p := ⟨b, off + (k * 12 + j), none⟩) hbl).trans (hck j v hj)
        refine ⟨f 0 _ rfl, ?_, ?_, ?_, ?_, ?_, ?_, ?_, ?_, ?_, ?_, ?_⟩
        · rw [Nat.add_assoc]; exact f 1 _ rfl
        · rw [Nat.add_assoc]; exact f 2 _ rfl
        · rw [Nat.add_assoc]; exact f 3 _ rfl
        · rw [Nat.add_assoc]; exact f 4 _ rfl
        · rw [Nat.add_assoc]; exact f 5 _ rfl
        · rw [Nat.add_assoc]; exact f 6 _ rfl
        · rw [Nat.add_assoc]; exact f 7 _ rfl
        · rw [Nat.add_assoc]; exact f 8 _ rfl
        · rw [Nat.add_assoc]; exact f 9 _ rfl
        · rw [Nat.add_assoc]; exact f 10 _ rfl
        · rw [Nat.add_assoc]; exact f 11 _ rfl
      obtain ⟨d0, d1, d2, d3, d4, d5, d6, d7, d8, d9, d10, d11⟩ := HSC.out wr HSP.out.belowN
      clear hcs hck
      go_wp2_with fail
      refine CZ.out.mono ?_; rintro e w3 ⟨N, rfl, hN0, hN1, hB3⟩
      have HS3_ := HSP.out.via hB3
      try simp only [List.cons_append, List.nil_append, List.set_cons_zero, List.set_cons_succ, List.map_cons, List.map_nil, List.getD_cons_zero, List.getD_cons_succ, World.size_alloc] at HS3_
      have HS3 := Lib.hid HS3_
      clear HS3_
      have CO := Lib.hid (overc_any (k := 6) HS3.out rfl ⟨hn1, hn2⟩ ⟨hN0, hN1⟩)
      clear hB3 d0 d1 d2 d3 d4 d5 d6 d7 d8 d9 d10 d11
      obtain ⟨T, hT⟩ : ∃ T : Int, n0 + 100 + N = T := ⟨_, rfl⟩
      have HT := Lib.hid hT
      rw [hT] at CO
      clear hT
      by_cases hov : 4194304 < T
      · have hdd : decide (4194304 < T) = true := by simpa using hov
        rw [hdd] at CO
        go_wp2_with fail
        refine CO.out.mono ?_; rintro e w4 ⟨rfl, hS4⟩
        have HF := Lib.hid hS4.belowN
        clear hS4
        go_wp2
        go_ret
        exact RetB.mk rfl HF.out
      · have hdd : decide (4194304 < T) = false := by simpa using hov
        rw [hdd] at CO
        go_wp2_with fail
        refine CO.out.mono ?_; rintro e w4 ⟨rfl, hS4⟩
        have hT0 : 0 ≤ T := by have := HT.out; omega
        have hT1 : T ≤ 4194304 := by omega
        have HW4_ := hS4
        try simp only [List.cons_append, List.nil_append, List.set_cons_zero, List.set_cons_succ, List.map_cons, List.map_nil, List.getD_cons_zero, List.getD_cons_succ, World.size_alloc] at HW4_
        have HW4 := Lib.hid HW4_
        clear HW4_
        clear hS4 hov HS3 HSP CO CZ HS hlt
        obtain ⟨d0, d1, d2, d3, d4, d5, d6, d7, d8, d9, d10, d11⟩ := HSC.out w4 HW4.out.belowN
        have HW5_ := (HW4.out.alloc 47 12 1 #[.int .i64 kk, .int .i64 on, .slice x1 x2 x3, .slice x4 x5 x6, .slice y1 y2 y3, .slice y4 y5 y6, .int .i64 mm, .int .i64 nn, .int .i64 ll, .slice po pn pc, .slice qo qn qc, .bool tl] rfl (by decide))
        try simp only [List.cons_append, List.nil_append, List.set_cons_zero, List.set_cons_succ, List.map_cons, List.map_nil, List.getD_cons_zero, List.getD_cons_succ, World.size_alloc] at HW5_
        have HW5 := Lib.hid HW5_
        clear HW5_
        obtain ⟨W5, hW5⟩ : ∃ z, Hid (w4.alloc (.cells #[.int .i64 kk, .int .i64 on, .slice x1 x2 x3, .slice x4 x5 x6, .slice y1 y2 y3, .slice y4 y5 y6, .int .i64 mm, .int .i64 nn, .int .i64 ll, .slice po pn pc, .slice qo qn qc, .bool tl] 47) = z) := ⟨_, rfl⟩
        obtain ⟨ob, hob⟩ : ∃ z, Hid (w4.heap.size = z) := ⟨_, rfl⟩
        rw [hW5.out, hob.out] at HW5
        go_upto_region 10 with fail
        rw [hW5.out, hob.out]
        clear d0 d1 d2 d3 d4 d5 d6 d7 d8 d9 d10 d11
        by_cases hon : on = 0
        · subst hon
          by_cases hkj : 7 ≤ kk ∧ kk ≤ 9
          · have g7 : (7 : Int) ≤ kk := hkj.1
            have g9 : kk ≤ 9 := hkj.2
            clear hkj
            have o0 := HW5.out.cell (i := 7) rfl 0 _ rfl
            have o1 := HW5.out.cell (i := 7) rfl 1 _ rfl
            go_upto_region 15 with fail
            clear o0 o1
            have o0 := HW5.out.cell (i := 7) rfl 0 _ rfl
            have o1 := HW5.out.cell (i := 7) rfl 1 _ rfl
            have o2 := HW5.out.cell (i := 7) rfl 2 _ rfl
            have o3 := HW5.out.cell (i := 7) rfl 3 _ rfl
            have o4 := HW5.out.cell (i := 7) rfl 4 _ rfl
            have o5 := HW5.out.cell (i := 7) rfl 5 _ rfl
            have o6 := HW5.out.cell (i := 7) rfl 6 _ rfl
            have o7 := HW5.out.cell (i := 7) rfl 7 _ rfl
            have o8 := HW5.out.cell (i := 7) rfl 8 _ rfl
            have o9 := HW5.out.cell (i := 7) rfl 9 _ rfl
            have o10 := HW5.out.cell (i := 7) rfl 10 _ rfl
            have o11 := HW5.out.cell (i := 7) rfl 11 _ rfl
            have HW6_ := ((HW5.out.pair (i := 6) rfl (j := 7) (by decide) rfl).pick [0, 1, 2, 3, 4, 5, 6] (by decide)).via (adrew1 W5)
            try simp only [List.cons_append, List.nil_append, List.set_cons_zero, List.set_cons_succ, List.map_cons, List.map_nil, List.getD_cons_zero, List.getD_cons_succ, World.size_alloc] at HW6_
            have HW6 := Lib.hid HW6_
            clear HW6_
            have cj := joins_any (j := 0) (d := a0) HW6.out rfl rfl HOI.out ⟨g7, g9⟩
            simp only [OpC.v] at cj
            have CJ := Lib.hid cj
            clear cj
            go_region_held3 (fun wx => wx.cell? ⟨ob, 0, none⟩ = some (.int .i64 kk) ∧ wx.cell? ⟨ob, 1, none⟩ = some (.int .i64 0) ∧ wx.cell? ⟨ob, 2, none⟩ = some (.slice x1 x2 x3) ∧ wx.cell? ⟨ob, 3, none⟩ = some (.slice x4 x5 x6) ∧ wx.cell? ⟨ob, 4, none⟩ = some (.slice y1 y2 y3) ∧ wx.cell? ⟨ob, 5, none⟩ = some (.slice y4 y5 y6) ∧ wx.cell? ⟨ob, 6, none⟩ = some (.int .i64 mm) ∧ wx.cell? ⟨ob, 7, none⟩ = some (.int .i64 nn) ∧ wx.cell? ⟨ob, 8, none⟩ = some (.int .i64 ll) ∧ wx.cell? ⟨ob, 9, none⟩ = some (.slice po pn pc) ∧ wx.cell? ⟨ob, 10, none⟩ = some (.slice qo qn qc) ∧ wx.cell? ⟨ob, 11, none⟩ = some (.bool tl)) (go_keep)
              (first
              | (go_at_call 8; (with_reducible refine Calls.mono CJ.out ?_); rintro e w7 ⟨rfl, d, h7⟩; clear o0 o1 o2 o3 o4 o5 o6 o7 o8 o9 o10 o11; (have H8_ := h7.split (i := 6) rfl; (try simp only [List.cons_append, List.nil_append, List.set_cons_zero, List.set_cons_succ, List.map_cons, List.map_nil, List.getD_cons_zero, List.getD_cons_succ, World.size_alloc] at H8_); have H8 := Lib.hid H8_; clear H8_ h7); have o0 := H8.out.cell (i := 8) rfl 0 _ rfl; have o1 := H8.out.cell (i := 8) rfl 1 _ rfl; have o2 := H8.out.cell (i := 8) rfl 2 _ rfl; have o3 := H8.out.cell (i := 8) rfl 3 _ rfl; have o4 := H8.out.cell (i := 8) rfl 4 _ rfl; have o5 := H8.out.cell (i := 8) rfl 5 _ rfl; have o6 := H8.out.cell (i := 8) rfl 6 _ rfl; have o7 := H8.out.cell (i := 8) rfl 7 _ rfl; have o8 := H8.out.cell (i := 8) rfl 8 _ rfl; have o9 := H8.out.cell (i := 8) rfl 9 _ rfl; have o10 := H8.out.cell (i := 8) rfl 10 _ rfl; have o11 := H8.out.cell (i := 8) rfl 11 _ rfl))
            have H7 : Hid (∃ a0 a1, Sp Non w w7 [Pt.hands hb none none none none, Pt.row ⟨42, 4, some ⟨sb, 0, none⟩, 1, 1, [sdV a0, sdW a0, sdV a1, sdW a1]⟩, sdA a0, sdB a0, sdA a1, sdB a1, Pt.row ⟨37, 1, some ⟨wb, 0, none⟩, 1, 1, [.int .i64 T]⟩]) := ⟨d, a1, H8.out.pick [0, 1, 2, 3, 4, 5, 7] (by decide)⟩
            clear H8 CJ o0 o1 o2 o3 o4 o5 o6 o7 o8 o9 o10 o11
            go_wp2
            go_roundw
            case rel => exact ⟨k + 1, T, by omega, by go_num, hT0, hT1, H7⟩
            case measure => simp [RowKit.intOf]; omega
          · have hg := ((HW5.out.pick [1, 2, 3, 4, 5, 6, 0] (by decide)).group 6).pick [1, 0] (by decide)
            have cp := cplays_any (w0 := w) (hb := hb) hg HOI.out
            simp only [OpC.v] at cp
            have CP := Lib.hid cp
            have HD : Hid (∀ w7, PlaysP w hb (Pt.all [Pt.row ⟨42, 4, some ⟨sb, 0, none⟩, 1, 1, [sdV a0, sdW a0, sdV a1, sdW a1]⟩, sdA a0, sdB a0, sdA a1, sdB a1, Pt.row ⟨37, 1, some ⟨wb, 0, none⟩, 1, 1, [.int .i64 T]⟩]) (.returned (.bool true)) w7 → ∃ a0 a1, Sp Non w w7 [Pt.hands hb none none none none, Pt.row ⟨42, 4, some ⟨sb, 0, none⟩, 1, 1, [sdV a0, sdW a0, sdV a1, sdW a1]⟩, sdA a0, sdB a0, sdA a1, sdB a1, Pt.row ⟨37, 1, some ⟨wb, 0, none⟩, 1, 1, [.int .i64 T]⟩]) := fun w7 h => ⟨a0, a1, (h.2.split (i := 1) rfl).pick [0, 2, 3, 4, 5, 6, 7] (by decide)⟩
            clear cp hg
            have o0 := HW5.out.cell (i := 7) rfl 0 _ rfl
            have o1 := HW5.out.cell (i := 7) rfl 1 _ rfl
            have o2 := HW5.out.cell (i := 7) rfl 2 _ rfl
            have o3 := HW5.out.cell (i := 7) rfl 3 _ rfl
            have o4 := HW5.out.cell (i := 7) rfl 4 _ rfl
            have o5 := HW5.out.cell (i := 7) rfl 5 _ rfl
            have o6 := HW5.out.cell (i := 7) rfl 6 _ rfl
            have o7 := HW5.out.cell (i := 7) rfl 7 _ rfl
            have o8 := HW5.out.cell (i := 7) rfl 8 _ rfl
            have o9 := HW5.out.cell (i := 7) rfl 9 _ rfl
            have o10 := HW5.out.cell (i := 7) rfl 10 _ rfl
            have o11 := HW5.out.cell (i := 7) rfl 11 _ rfl
            by_cases g7 : (7 : Int) ≤ kk
            · have g9 : ¬ (kk ≤ 9) := fun h => hkj ⟨g7, h⟩
              clear hkj
              go_wp2_with fail
              refine CP.out.mono ?_; rintro e w7 h7
              obtain rfl := h7.1
              have H7 := Lib.hid (HD.out w7 h7)
              clear h7 CP HD o0 o1 o2 o3 o4 o5 o6 o7 o8 o9 o10 o11
              go_wp2
              go_roundw
              case rel => exact ⟨k + 1, T, by omega, by go_num, hT0, hT1, H7⟩
              case measure => simp [RowKit.intOf]; omega
            · skip
              clear hkj
              go_wp2_with fail
              refine CP.out.mono ?_; rintro e w7 h7
              obtain rfl := h7.1
              have H7 := Lib.hid (HD.out w7 h7)
              clear h7 CP HD o0 o1 o2 o3 o4 o5 o6 o7 o8 o9 o10 o11
              go_wp2
              go_roundw
              case rel => exact ⟨k + 1, T, by omega, by go_num, hT0, hT1, H7⟩
              case measure => simp [RowKit.intOf]; omega
        · have hon' : (on != 0) = true := by simpa using hon
          by_cases hkj : 7 ≤ kk ∧ kk ≤ 9
          · have g7 : (7 : Int) ≤ kk := hkj.1
            have g9 : kk ≤ 9 := hkj.2
            clear hkj
            have o0 := HW5.out.cell (i := 7) rfl 0 _ rfl
            have o1 := HW5.out.cell (i := 7) rfl 1 _ rfl
            go_upto_region 15 with fail
            clear o0 o1
            have o0 := HW5.out.cell (i := 7) rfl 0 _ rfl
            have o1 := HW5.out.cell (i := 7) rfl 1 _ rfl
            have o2 := HW5.out.cell (i := 7) rfl 2 _ rfl
            have o3 := HW5.out.cell (i := 7) rfl 3 _ rfl
            have o4 := HW5.out.cell (i := 7) rfl 4 _ rfl
            have o5 := HW5.out.cell (i := 7) rfl 5 _ rfl
            have o6 := HW5.out.cell (i := 7) rfl 6 _ rfl
            have o7 := HW5.out.cell (i := 7) rfl 7 _ rfl
            have o8 := HW5.out.cell (i := 7) rfl 8 _ rfl
            have o9 := HW5.out.cell (i := 7) rfl 9 _ rfl
            have o10 := HW5.out.cell (i := 7) rfl 10 _ rfl
            have o11 := HW5.out.cell (i := 7) rfl 11 _ rfl
            have HW6_ := ((HW5.out.pair (i := 6) rfl (j := 7) (by decide) rfl).pick [0, 1, 4, 5, 2, 3, 6] (by decide)).via (adrew1 W5)
            try simp only [List.cons_append, List.nil_append, List.set_cons_zero, List.set_cons_succ, List.map_cons, List.map_nil, List.getD_cons_zero, List.getD_cons_succ, World.size_alloc] at HW6_
            have HW6 := Lib.hid HW6_
            clear HW6_
            have cj := joins_any (j := 2) (d := a1) HW6.out rfl rfl HOI.out ⟨g7, g9⟩
            simp only [OpC.v] at cj
            have CJ := Lib.hid cj
            clear cj
            go_region_held3 (fun wx => wx.cell? ⟨ob, 0, none⟩ = some (.int .i64 kk) ∧ wx.cell? ⟨ob, 1, none⟩ = some (.int .i64 on) ∧ wx.cell? ⟨ob, 2, none⟩ = some (.slice x1 x2 x3) ∧ wx.cell? ⟨ob, 3, none⟩ = some (.slice x4 x5 x6) ∧ wx.cell? ⟨ob, 4, none⟩ = some (.slice y1 y2 y3) ∧ wx.cell? ⟨ob, 5, none⟩ = some (.slice y4 y5 y6) ∧ wx.cell? ⟨ob, 6, none⟩ = some (.int .i64 mm) ∧ wx.cell? ⟨ob, 7, none⟩ = some (.int .i64 nn) ∧ wx.cell? ⟨ob, 8, none⟩ = some (.int .i64 ll) ∧ wx.cell? ⟨ob, 9, none⟩ = some (.slice po pn pc) ∧ wx.cell? ⟨ob, 10, none⟩ = some (.slice qo qn qc) ∧ wx.cell? ⟨ob, 11, none⟩ = some (.bool tl)) (go_keep)
              (first
              | (go_at_call 8; (with_reducible refine Calls.mono CJ.out ?_); rintro e w7 ⟨rfl, d, h7⟩; clear o0 o1 o2 o3 o4 o5 o6 o7 o8 o9 o10 o11; (have H8_ := h7.split (i := 6) rfl; (try simp only [List.cons_append, List.nil_append, List.set_cons_zero, List.set_cons_succ, List.map_cons, List.map_nil, List.getD_cons_zero, List.getD_cons_succ, World.size_alloc] at H8_); have H8 := Lib.hid H8_; clear H8_ h7); have o0 := H8.out.cell (i := 8) rfl 0 _ rfl; have o1 := H8.out.cell (i := 8) rfl 1 _ rfl; have o2 := H8.out.cell (i := 8) rfl 2 _ rfl; have o3 := H8.out.cell (i := 8) rfl 3 _ rfl; have o4 := H8.out.cell (i := 8) rfl 4 _ rfl; have o5 := H8.out.cell (i := 8) rfl 5 _ rfl; have o6 := H8.out.cell (i := 8) rfl 6 _ rfl; have o7 := H8.out.cell (i := 8) rfl 7 _ rfl; have o8 := H8.out.cell (i := 8) rfl 8 _ rfl; have o9 := H8.out.cell (i := 8) rfl 9 _ rfl; have o10 := H8.out.cell (i := 8) rfl 10 _ rfl; have o11 := H8.out.cell (i := 8) rfl 11 _ rfl))
            have H7 : Hid (∃ a0 a1, Sp Non w w7 [Pt.hands hb none none none none, Pt.row ⟨42, 4, some ⟨sb, 0, none⟩, 1, 1, [sdV a0, sdW a0, sdV a1, sdW a1]⟩, sdA a0, sdB a0, sdA a1, sdB a1, Pt.row ⟨37, 1, some ⟨wb, 0, none⟩, 1, 1, [.int .i64 T]⟩]) := ⟨a0, d, H8.out.pick [0, 1, 4, 5, 2, 3, 7] (by decide)⟩
            clear H8 CJ o0 o1 o2 o3 o4 o5 o6 o7 o8 o9 o10 o11
            go_wp2
            go_roundw
            case rel => exact ⟨k + 1, T, by omega, by go_num, hT0, hT1, H7⟩
            case measure => simp [RowKit.intOf]; omega
          · have hg := ((HW5.out.pick [1, 2, 3, 4, 5, 6, 0] (by decide)).group 6).pick [1, 0] (by decide)
            have cp := cplays_any (w0 := w) (hb := hb) hg HOI.out
            simp only [OpC.v] at cp
            have CP := Lib.hid cp
            have HD : Hid (∀ w7, PlaysP w hb (Pt.all [Pt.row ⟨42, 4, some ⟨sb, 0, none⟩, 1, 1, [sdV a0, sdW a0, sdV a1, sdW a1]⟩, sdA a0, sdB a0, sdA a1, sdB a1, Pt.row ⟨37, 1, some ⟨wb, 0, none⟩, 1, 1, [.int .i64 T]⟩]) (.returned (.bool true)) w7 → ∃ a0 a1, Sp Non w w7 [Pt.hands hb none none none none, Pt.row ⟨42, 4, some ⟨sb, 0, none⟩, 1, 1, [sdV a0, sdW a0, sdV a1, sdW a1]⟩, sdA a0, sdB a0, sdA a1, sdB a1, Pt.row ⟨37, 1, some ⟨wb, 0, none⟩, 1, 1, [.int .i64 T]⟩]) := fun w7 h => ⟨a0, a1, (h.2.split (i := 1) rfl).pick [0, 2, 3, 4, 5, 6, 7] (by decide)⟩
            clear cp hg
            have o0 := HW5.out.cell (i := 7) rfl 0 _ rfl
            have o1 := HW5.out.cell (i := 7) rfl 1 _ rfl
            have o2 := HW5.out.cell (i := 7) rfl 2 _ rfl
            have o3 := HW5.out.cell (i := 7) rfl 3 _ rfl
            have o4 := HW5.out.cell (i := 7) rfl 4 _ rfl
            have o5 := HW5.out.cell (i := 7) rfl 5 _ rfl
            have o6 := HW5.out.cell (i := 7) rfl 6 _ rfl
            have o7 := HW5.out.cell (i := 7) rfl 7 _ rfl
            have o8 := HW5.out.cell (i := 7) rfl 8 _ rfl
            have o9 := HW5.out.cell (i := 7) rfl 9 _ rfl
            have o10 := HW5.out.cell (i := 7) rfl 10 _ rfl
            have o11 := HW5.out.cell (i := 7) rfl 11 _ rfl
            by_cases g7 : (7 : Int) ≤ kk
            · have g9 : ¬ (kk ≤ 9) := fun h => hkj ⟨g7, h⟩
              clear hkj
              go_wp2_with fail
              refine CP.out.mono ?_; rintro e w7 h7
              obtain rfl := h7.1
              have H7 := Lib.hid (HD.out w7 h7)
              clear h7 CP HD o0 o1 o2 o3 o4 o5 o6 o7 o8 o9 o10 o11
              go_wp2
              go_roundw
              case rel => exact ⟨k + 1, T, by omega, by go_num, hT0, hT1, H7⟩
              case measure => simp [RowKit.intOf]; omega
            · skip
              clear hkj
              go_wp2_with fail
              refine CP.out.mono ?_; rintro e w7 h7
              obtain rfl := h7.1
              have H7 := Lib.hid (HD.out w7 h7)
              clear h7 CP HD o0 o1 o2 o3 o4 o5 o6 o7 o8 o9 o10 o11
              go_wp2
              go_roundw
              case rel => exact ⟨k + 1, T, by omega, by go_num, hT0, hT1, H7⟩
              case measure => simp [RowKit.intOf]; omega
    · have hge : (n : Int) ≤ k := by omega
      go_wp2
      go_ret
      exact RetB.mk rfl HSP.out.belowN
end Go.Proofs.Ythackmkdicpdeaa

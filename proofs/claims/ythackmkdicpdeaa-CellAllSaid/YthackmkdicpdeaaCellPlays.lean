/- plays of layer 4, kind by kind (printed by gen_cplays.py). -/
import Derived.Test.YthackmkdicpdeaaHandsCK
import Derived.Test.YthackmkdicpdeaaOpC
import Derived.Test.YthackmkdicpdeaaEqCells
import Derived.Test.YthackmkdicpdeaaCellEq
import Derived.Test.YthackmkdicpdeaaCellBegun
import Derived.Test.YthackmkdicpdeaaCellTwo
import Derived.Test.YthackmkdicpdeaaCellJoin
import Derived.Test.YthackmkdicpdeaaCellPart
import Derived.Test.YthackmkdicpdeaaR4One
import Derived.Test.YthackmkdicpdeaaR4Two
import Derived.Test.YthackmkdicpdeaaR4Part
import Derived.Test.YthackmkdicpdeaaR4Pieces
import Derived.Test.YthackmkdicpdeaaR4Empty
import Derived.Test.YthackmkdicpdeaaR4Join
import Derived.Test.YthackmkdicpdeaaRegHd
namespace Go.Proofs.Ythackmkdicpdeaa
open Go.RowKit Go.Lib
set_option linter.unusedVariables false
set_option linter.unusedSimpArgs false
attribute [local go_sem] alloc_drewN setCell_drewN
def PlaysP (w0 : World) (hb : Nat) (G : Pt) (e : Ending) (w' : World) : Prop := e = .returned (.bool true) ∧ Sp Non w0 w' [Pt.hands hb none none none none, G]
set_option maxRecDepth 100000 in
set_option maxHeartbeats 6400000 in
theorem cplays_1 {w0 w : World} {hb : Nat} {G : Pt} (H : Sp Non w0 w [Pt.hands hb none none none none, G]) {o : OpC} (hO : o.Is w0) (hk : o.k = 1) : Calls Try.prog 9 #[.pointer (some ⟨hb, 0, none⟩), o.v] w (PlaysP w0 hb G) := by
  obtain ⟨kk, on, ⟨x1, x2, x3, x4, x5, x6, xs, xt⟩, ⟨y1, y2, y3, y4, y5, y6, ys, yt⟩, mm, nn, ll, po, pn, pc, pf, qo, qn, qc, qs, tl⟩ := o
  obtain ⟨hX, hY, hF, hL, hM, hN, hLL, hBG⟩ := hO
  simp only at hk hX hY hF hL hM hN hLL hBG
  subst hk
  have HOX := Lib.hid hX
  have HOY := Lib.hid hY
  have HOF := Lib.hid hF
  have HOL := Lib.hid hL
  have HM := Lib.hid hM
  have HN := Lib.hid hN
  have HLL := Lib.hid hLL
  have HBG := Lib.hid hBG
  simp only [OpC.v]
  obtain ⟨b, HB⟩ : ∃ z, Hid (w.heap.size = z) := ⟨_, rfl⟩
  obtain ⟨W, HW⟩ : ∃ z, Hid (w.alloc (.cells #[.int .i64 1, .int .i64 on, .slice x1 x2 x3, .slice x4 x5 x6, .slice y1 y2 y3, .slice y4 y5 y6, .int .i64 mm, .int .i64 nn, .int .i64 ll, .slice po pn pc, .slice qo qn qc, .bool tl] 47) = z) := ⟨_, rfl⟩
  have h1 := H.alloc 47 12 1 #[.int .i64 1, .int .i64 on, .slice x1 x2 x3, .slice x4 x5 x6, .slice y1 y2 y3, .slice y4 y5 y6, .int .i64 mm, .int .i64 nn, .int .i64 ll, .slice po pn pc, .slice qo qn qc, .bool tl] rfl (by decide)
  rw [HW.out, HB.out] at h1
  have H1_ := h1
  try simp only [List.cons_append, List.nil_append, List.set_cons_zero, List.set_cons_succ, List.map_cons, List.map_nil, List.getD_cons_zero, List.getD_cons_succ, World.size_alloc] at H1_
  have H1 := Lib.hid H1_
  clear H1_
  clear h1 H hX hY hF hL hM hN hLL hBG
  obtain ⟨vF, HvF⟩ : ∃ z, Hid (onF ys yt nn = z) := ⟨_, rfl⟩
  obtain ⟨vI, HvI⟩ : ∃ z, Hid (onI ys yt nn = z) := ⟨_, rfl⟩
  obtain ⟨vZ, HvZ⟩ : ∃ z, Hid (onZ ys yt nn = z) := ⟨_, rfl⟩
  obtain ⟨vC, HvC⟩ : ∃ z, Hid (onC ys yt nn = z) := ⟨_, rfl⟩
  obtain ⟨vE, HvE⟩ : ∃ z, Hid (onE ys yt = z) := ⟨_, rfl⟩
  have x0 := H1.out.cell (i := 2) rfl 0 _ rfl
  go_enter Try.func9, Try.ntmps9
  go_upto_region 1 with fail
  rw [HW.out, HB.out]
  go_upto_region 3 with fail
  obtain ⟨w3, Hw3⟩ : ∃ z, Hid (W = z) := ⟨_, rfl⟩
  rw [Hw3.out] at H1 ⊢
  have HSA := H1
  clear x0
  have HS0_ := HSA.out.via (adrew1 w3)
  try simp only [List.cons_append, List.nil_append, List.set_cons_zero, List.set_cons_succ, List.map_cons, List.map_nil, List.getD_cons_zero, List.getD_cons_succ, World.size_alloc] at HS0_
  have HS0 := Lib.hid HS0_
  clear HS0_
  have d4 := HS0.out.cell (i := 2) rfl 4 _ rfl; have d5 := HS0.out.cell (i := 2) rfl 5 _ rfl; have d7 := HS0.out.cell (i := 2) rfl 7 _ rfl
  go_cut [5, 6] from 44 to 55 (fun (v5 v6 : Value) (wx : World) => ∃ (gb : Nat) (gy dy ky ey : Nat) (fo1 : Option Addr) (fn1 fc1 : Nat) (co1 : Option Addr) (cn1 cc1 : Nat) (B1 : Ar) (As1 : List Ar), v5 = .pointer (some ⟨gb, 0, none⟩) ∧ v6 = .int .i64 vE ∧ Hid (As1.map Ar.sa2 = vC ∧ B1.s = vI ∧ B1.a = vZ) ∧ Hid (Sp Non w0 wx [Pt.hands hb none (some (laid4 ys yt gy dy ky ey)) none none, G, Pt.row ⟨47, 12, some ⟨b, 0, none⟩, 1, 1, [.int .i64 1, .int .i64 on, .slice x1 x2 x3, .slice x4 x5 x6, .slice y1 y2 y3, .slice y4 y5 y6, .int .i64 mm, .int .i64 nn, .int .i64 ll, .slice po pn pc, .slice qo qn qc, .bool tl]⟩, Pt.ints 3 fo1 fn1 fc1 vF, Pt.arrs co1 cn1 cc1 As1, Pt.arr B1, Pt.row ⟨74, 4, some ⟨gb, 0, none⟩, 1, 1, [.slice fo1 fn1 fc1, .slice co1 cn1 cc1, .slice B1.sa B1.sn B1.sc, .slice B1.aa B1.an B1.ac]⟩]))
  case first =>
    go_upto_region 3 with fail
    refine wp_region_noPanic ?_
    refine wp_region_hd (S := (fun wS => wS.cell? ⟨b, 4, none⟩ = some (.slice y1 y2 y3) ∧ wS.cell? ⟨b, 5, none⟩ = some (.slice y4 y5 y6) ∧ wS.cell? ⟨b, 7, none⟩ = some (.int .i64 nn))) 14 (by kernel_rfl) (by kernel_rfl) ?_ (fun hHeld => ?_)
    · exact ⟨d4, d5, d7⟩
    refine wpHd_take (i := 0) (v := ?_) (by kernel_rfl) (by simp only [List.getElem?_toArray, List.getElem?_cons_succ, List.getElem?_cons_zero] <;> rfl) (by kernel_rfl) (fun _ _ _ h => h) (Or.inl ⟨by rfl, ?_⟩) (by assumption) ?_
    rotate_left
    · (intro wS hSw; (try dsimp only at hSw); go_simp <;> with_reducible rfl)
    try simp only [Act.put, List.setIfInBounds_toArray, List.set_cons_zero, List.set_cons_succ, Nat.zero_add]
    refine wpHd_take (i := 1) (v := ?_) (by kernel_rfl) (by simp only [List.getElem?_toArray, List.getElem?_cons_succ, List.getElem?_cons_zero] <;> rfl) (by kernel_rfl) (fun _ _ _ h => h) (Or.inl ⟨by rfl, ?_⟩) (by assumption) ?_
    rotate_left
    · (intro wS hSw; (try dsimp only at hSw); go_simp <;> with_reducible rfl)
    try simp only [Act.put, List.setIfInBounds_toArray, List.set_cons_zero, List.set_cons_succ, Nat.zero_add]
    refine wpHd_take (i := 2) (v := ?_) (by kernel_rfl) (by simp only [List.getElem?_toArray, List.getElem?_cons_succ, List.getElem?_cons_zero] <;> rfl) (by kernel_rfl) (fun _ _ _ h => h) (Or.inl ⟨by rfl, ?_⟩) (by assumption) ?_
    rotate_left
    · (intro wS hSw; (try dsimp only at hSw); go_simp <;> with_reducible rfl)
    try simp only [Act.put, List.setIfInBounds_toArray, List.set_cons_zero, List.set_cons_succ, Nat.zero_add]
    refine wpHd_take (i := 3) (v := ?_) (by kernel_rfl) (by simp only [List.getElem?_toArray, List.getElem?_cons_succ, List.getElem?_cons_zero] <;> rfl) (by kernel_rfl) (fun _ _ _ h => h) (Or.inl ⟨by rfl, ?_⟩) (by assumption) ?_
    rotate_left
    · (intro wS hSw; (try dsimp only at hSw); go_simp <;> with_reducible rfl)
    try simp only [Act.put, List.setIfInBounds_toArray, List.set_cons_zero, List.set_cons_succ, Nat.zero_add]
    refine wpHd_take (i := 4) (v := ?_) (by kernel_rfl) (by simp only [List.getElem?_toArray, List.getElem?_cons_succ, List.getElem?_cons_zero] <;> rfl) (by kernel_rfl) (fun _ _ _ h => h) (Or.inl ⟨by rfl, ?_⟩) (by assumption) ?_
    rotate_left
    · (intro wS hSw; (try dsimp only at hSw); go_simp <;> with_reducible rfl)
    try simp only [Act.put, List.setIfInBounds_toArray, List.set_cons_zero, List.set_cons_succ, Nat.zero_add]
    refine wpHd_take (i := 6) (v := ?_) (by kernel_rfl) (by simp only [List.getElem?_toArray, List.getElem?_cons_succ, List.getElem?_cons_zero] <;> rfl) (by kernel_rfl) (fun _ _ _ h => h) (Or.inl ⟨by rfl, ?_⟩) (by assumption) ?_
    rotate_left
    · (intro wS hSw; (try dsimp only at hSw); go_simp <;> with_reducible rfl)
    try simp only [Act.put, List.setIfInBounds_toArray, List.set_cons_zero, List.set_cons_succ, Nat.zero_add]
    refine wpHd_take (i := 7) (v := ?_) (by kernel_rfl) (by simp only [List.getElem?_toArray, List.getElem?_cons_succ, List.getElem?_cons_zero] <;> rfl) (by kernel_rfl) (fun _ _ _ h => h) (Or.inl ⟨by rfl, ?_⟩) (by assumption) ?_
    rotate_left
    · (intro wS hSw; (try dsimp only at hSw); go_simp <;> with_reducible rfl)
    try simp only [Act.put, List.setIfInBounds_toArray, List.set_cons_zero, List.set_cons_succ, Nat.zero_add]
    refine wpHd_ready (rs := [5, 12]) (by kernel_rfl) (by simp) ?_
    refine (RdyHd.cons (by simp only [List.getElem?_toArray, List.getElem?_cons_succ, List.getElem?_cons_zero] <;> rfl) (by decide) (fun K hK => ?_) (RdyHd.cons (by simp only [List.getElem?_toArray, List.getElem?_cons_succ, List.getElem?_cons_zero] <;> rfl) (by decide) (fun K hK => ?_) RdyHd.nil))
    · go_simp
      go_at_call 35
      have ca := HS0.out.arrayY (i := 0) rfl HOY.out
      simp only [Ar.v] at ca
      refine ca.mono ?_
      rintro e w5 ⟨gy, dy, ky, ey, rfl, hdy, hey, h5⟩
      simp only [List.set_cons_zero] at h5
      have HS1 := Lib.hid h5
      clear ca h5 d4 d5 d7
      have d4 := HS1.out.cell (i := 2) rfl 4 _ rfl; have d5 := HS1.out.cell (i := 2) rfl 5 _ rfl; have d7 := HS1.out.cell (i := 2) rfl 7 _ rfl
      (try go_simp)
      refine hK.out _ _ ?_ (fun hHeld => ?_)
      · exact ⟨d4, d5, d7⟩
      clear hK K
      try simp only [Act.put, List.setIfInBounds_toArray, List.set_cons_zero, List.set_cons_succ, Nat.zero_add]
      refine wpHd_ready (rs := [8, 12]) (by kernel_rfl) (by simp) ?_
      refine (RdyHd.cons (by simp only [List.getElem?_toArray, List.getElem?_cons_succ, List.getElem?_cons_zero] <;> rfl) (by decide) (fun K hK => ?_) (RdyHd.cons (by simp only [List.getElem?_toArray, List.getElem?_cons_succ, List.getElem?_cons_zero] <;> rfl) (by decide) (fun K hK => ?_) RdyHd.nil))
      · go_simp
        go_at_call 19
        have ca := one_any (HS1.out.isY (i := 0) rfl HOY.out hdy hey) nn HN.out
        try simp only [Ar.v] at ca
        rw [HvF.out, HvI.out, HvZ.out, HvC.out, HvE.out] at ca
        refine ca.mono ?_
        rintro e w6 ⟨fo1, fn1, fc1, co1, cn1, cc1, B1, As1, rfl, h6, hA1, hB1, hT1⟩
        have HS2_ := HS1.out.add h6
        try simp only [List.cons_append, List.nil_append, List.set_cons_zero, List.set_cons_succ, List.map_cons, List.map_nil, List.getD_cons_zero, List.getD_cons_succ, World.size_alloc] at HS2_
        have HS2 := Lib.hid HS2_
        clear HS2_
        clear ca d4 d5 d7
        have d4 := HS2.out.cell (i := 2) rfl 4 _ rfl; have d5 := HS2.out.cell (i := 2) rfl 5 _ rfl; have d7 := HS2.out.cell (i := 2) rfl 7 _ rfl
        (try go_simp)
        (try simp only [Ar.v])
        refine hK.out _ _ ?_ (fun hHeld => ?_)
        · exact ⟨d4, d5, d7⟩
        clear hK K
        try simp only [Act.put, List.setIfInBounds_toArray, List.set_cons_zero, List.set_cons_succ, Nat.zero_add]
        refine wpHd_take (i := 9) (v := ?_) (by kernel_rfl) (by simp only [List.getElem?_toArray, List.getElem?_cons_succ, List.getElem?_cons_zero] <;> rfl) (by kernel_rfl) (fun _ _ _ h => h) (Or.inl ⟨by rfl, ?_⟩) (by assumption) ?_
        rotate_left
        · (intro wS hSw; (try dsimp only at hSw); go_simp <;> with_reducible rfl)
        try simp only [Act.put, List.setIfInBounds_toArray, List.set_cons_zero, List.set_cons_succ, Nat.zero_add]
        refine wpHd_take (i := 10) (v := ?_) (by kernel_rfl) (by simp only [List.getElem?_toArray, List.getElem?_cons_succ, List.getElem?_cons_zero] <;> rfl) (by kernel_rfl) (fun _ _ _ h => h) (Or.inl ⟨by rfl, ?_⟩) (by assumption) ?_
        rotate_left
        · (intro wS hSw; (try dsimp only at hSw); go_simp <;> with_reducible rfl)
        try simp only [Act.put, List.setIfInBounds_toArray, List.set_cons_zero, List.set_cons_succ, Nat.zero_add]
        refine wpHd_take (i := 11) (v := ?_) (by kernel_rfl) (by simp only [List.getElem?_toArray, List.getElem?_cons_succ, List.getElem?_cons_zero] <;> rfl) (by kernel_rfl) (fun _ _ _ h => h) (Or.inl ⟨by rfl, ?_⟩) (by assumption) ?_
        rotate_left
        · (intro wS hSw; (try dsimp only at hSw); go_simp <;> with_reducible rfl)
        try simp only [Act.put, List.setIfInBounds_toArray, List.set_cons_zero, List.set_cons_succ, Nat.zero_add]
        refine wpHd_ready (rs := [12]) (by kernel_rfl) (by simp) ?_
        refine (RdyHd.cons (by simp only [List.getElem?_toArray, List.getElem?_cons_succ, List.getElem?_cons_zero] <;> rfl) (by decide) (fun K hK => ?_) RdyHd.nil)
        · go_simp
          have HS3_ := HS2.out.alloc 74 4 1 #[.slice none 0 0, .slice none 0 0, .slice none 0 0, .slice none 0 0] rfl (by decide)
          try simp only [List.cons_append, List.nil_append, List.set_cons_zero, List.set_cons_succ, List.map_cons, List.map_nil, List.getD_cons_zero, List.getD_cons_succ, World.size_alloc] at HS3_
          have HS3 := Lib.hid HS3_
          clear HS3_
          clear d4 d5 d7
          have d4 := HS3.out.cell (i := 2) rfl 4 _ rfl; have d5 := HS3.out.cell (i := 2) rfl 5 _ rfl; have d7 := HS3.out.cell (i := 2) rfl 7 _ rfl
          refine hK.out _ _ ?_ (fun hHeld => ?_)
          · exact ⟨d4, d5, d7⟩
          clear hK K
          try simp only [Act.put, List.setIfInBounds_toArray, List.set_cons_zero, List.set_cons_succ, Nat.zero_add]
          refine wpHd_ready (rs := [13]) (by kernel_rfl) (by simp) ?_
          refine (RdyHd.cons (by simp only [List.getElem?_toArray, List.getElem?_cons_succ, List.getElem?_cons_zero] <;> rfl) (by decide) (fun K hK => ?_) RdyHd.nil)
          · have c0 := HS3.out.cell (i := 6) rfl 0 _ rfl; have f0 := HS3.out.frozen (i := 6) rfl 0; have c1 := HS3.out.cell (i := 6) rfl 1 _ rfl; have f1 := HS3.out.frozen (i := 6) rfl 1; have c2 := HS3.out.cell (i := 6) rfl 2 _ rfl; have f2 := HS3.out.frozen (i := 6) rfl 2; have c3 := HS3.out.cell (i := 6) rfl 3 _ rfl; have f3 := HS3.out.frozen (i := 6) rfl 3
            go_simp
            have HS4_ := HS2.out.alloc 74 4 1 #[.slice fo1 fn1 fc1, .slice co1 cn1 cc1, .slice B1.sa B1.sn B1.sc, .slice B1.aa B1.an B1.ac] rfl (by decide)
            try simp only [List.cons_append, List.nil_append, List.set_cons_zero, List.set_cons_succ, List.map_cons, List.map_nil, List.getD_cons_zero, List.getD_cons_succ, World.size_alloc] at HS4_
            have HS4 := Lib.hid HS4_
            clear HS4_
            clear c0 f0 c1 f1 c2 f2 c3 f3 d4 d5 d7
            have d4 := HS4.out.cell (i := 2) rfl 4 _ rfl; have d5 := HS4.out.cell (i := 2) rfl 5 _ rfl; have d7 := HS4.out.cell (i := 2) rfl 7 _ rfl
            refine hK.out _ _ ?_ (fun hHeld => ?_)
            · exact ⟨d4, d5, d7⟩
            clear hK K
            try simp only [Act.put, List.setIfInBounds_toArray, List.set_cons_zero, List.set_cons_succ, Nat.zero_add]
            refine wpHd_done (by kernel_rfl) ?_
            simp only [List.drop_succ_cons, List.drop_zero]
            go_wp2_with fail
            refine NoPanic.normal ?_
            go_wp2_with fail
            go_meet
            exact ⟨w6.heap.size, gy, dy, ky, ey, fo1, fn1, fc1, co1, cn1, cc1, B1, As1, rfl, rfl, ⟨hA1, hB1, hT1⟩, HS4.out.pick [0, 1, 2, 3, 4, 5, 6] (by decide)⟩
      · go_simp
        have HS2_ := HS1.out.alloc 74 4 1 #[.slice none 0 0, .slice none 0 0, .slice none 0 0, .slice none 0 0] rfl (by decide)
        try simp only [List.cons_append, List.nil_append, List.set_cons_zero, List.set_cons_succ, List.map_cons, List.map_nil, List.getD_cons_zero, List.getD_cons_succ, World.size_alloc] at HS2_
        have HS2 := Lib.hid HS2_
        clear HS2_
        clear d4 d5 d7
        have d4 := HS2.out.cell (i := 2) rfl 4 _ rfl; have d5 := HS2.out.cell (i := 2) rfl 5 _ rfl; have d7 := HS2.out.cell (i := 2) rfl 7 _ rfl
        refine hK.out _ _ ?_ (fun hHeld => ?_)
        · exact ⟨d4, d5, d7⟩
        clear hK K
        try simp only [Act.put, List.setIfInBounds_toArray, List.set_cons_zero, List.set_cons_succ, Nat.zero_add]
        refine wpHd_ready (rs := [8]) (by kernel_rfl) (by simp) ?_
        refine (RdyHd.cons (by simp only [List.getElem?_toArray, List.getElem?_cons_succ, List.getElem?_cons_zero] <;> rfl) (by decide) (fun K hK => ?_) RdyHd.nil)
        · go_simp
          go_at_call 19
          have ca := one_any (HS2.out.isY (i := 0) rfl HOY.out hdy hey) nn HN.out
          try simp only [Ar.v] at ca
          rw [HvF.out, HvI.out, HvZ.out, HvC.out, HvE.out] at ca
          refine ca.mono ?_
          rintro e w6 ⟨fo1, fn1, fc1, co1, cn1, cc1, B1, As1, rfl, h6, hA1, hB1, hT1⟩
          have HS3_ := HS2.out.add h6
          try simp only [List.cons_append, List.nil_append, List.set_cons_zero, List.set_cons_succ, List.map_cons, List.map_nil, List.getD_cons_zero, List.getD_cons_succ, World.size_alloc] at HS3_
          have HS3 := Lib.hid HS3_
          clear HS3_
          clear ca d4 d5 d7
          have d4 := HS3.out.cell (i := 2) rfl 4 _ rfl; have d5 := HS3.out.cell (i := 2) rfl 5 _ rfl; have d7 := HS3.out.cell (i := 2) rfl 7 _ rfl
          (try go_simp)
          (try simp only [Ar.v])
          refine hK.out _ _ ?_ (fun hHeld => ?_)
          · exact ⟨d4, d5, d7⟩
          clear hK K
          try simp only [Act.put, List.setIfInBounds_toArray, List.set_cons_zero, List.set_cons_succ, Nat.zero_add]
          refine wpHd_take (i := 9) (v := ?_) (by kernel_rfl) (by simp only [List.getElem?_toArray, List.getElem?_cons_succ, List.getElem?_cons_zero] <;> rfl) (by kernel_rfl) (fun _ _ _ h => h) (Or.inl ⟨by rfl, ?_⟩) (by assumption) ?_
          rotate_left
          · (intro wS hSw; (try dsimp only at hSw); go_simp <;> with_reducible rfl)
          try simp only [Act.put, List.setIfInBounds_toArray, List.set_cons_zero, List.set_cons_succ, Nat.zero_add]
          refine wpHd_take (i := 10) (v := ?_) (by kernel_rfl) (by simp only [List.getElem?_toArray, List.getElem?_cons_succ, List.getElem?_cons_zero] <;> rfl) (by kernel_rfl) (fun _ _ _ h => h) (Or.inl ⟨by rfl, ?_⟩) (by assumption) ?_
          rotate_left
          · (intro wS hSw; (try dsimp only at hSw); go_simp <;> with_reducible rfl)
          try simp only [Act.put, List.setIfInBounds_toArray, List.set_cons_zero, List.set_cons_succ, Nat.zero_add]
          refine wpHd_take (i := 11) (v := ?_) (by kernel_rfl) (by simp only [List.getElem?_toArray, List.getElem?_cons_succ, List.getElem?_cons_zero] <;> rfl) (by kernel_rfl) (fun _ _ _ h => h) (Or.inl ⟨by rfl, ?_⟩) (by assumption) ?_
          rotate_left
          · (intro wS hSw; (try dsimp only at hSw); go_simp <;> with_reducible rfl)
          try simp only [Act.put, List.setIfInBounds_toArray, List.set_cons_zero, List.set_cons_succ, Nat.zero_add]
          refine wpHd_ready (rs := [13]) (by kernel_rfl) (by simp) ?_
          refine (RdyHd.cons (by simp only [List.getElem?_toArray, List.getElem?_cons_succ, List.getElem?_cons_zero] <;> rfl) (by decide) (fun K hK => ?_) RdyHd.nil)
          · have c0 := HS3.out.cell (i := 3) rfl 0 _ rfl; have f0 := HS3.out.frozen (i := 3) rfl 0; have c1 := HS3.out.cell (i := 3) rfl 1 _ rfl; have f1 := HS3.out.frozen (i := 3) rfl 1; have c2 := HS3.out.cell (i := 3) rfl 2 _ rfl; have f2 := HS3.out.frozen (i := 3) rfl 2; have c3 := HS3.out.cell (i := 3) rfl 3 _ rfl; have f3 := HS3.out.frozen (i := 3) rfl 3
            go_simp
            have HS4_ := ((((HS3.out.put (i := 3) rfl 0 (.slice fo1 fn1 fc1)).put (i := 3) rfl 1 (.slice co1 cn1 cc1)).put (i := 3) rfl 2 (.slice B1.sa B1.sn B1.sc)).put (i := 3) rfl 3 (.slice B1.aa B1.an B1.ac))
            try simp only [List.cons_append, List.nil_append, List.set_cons_zero, List.set_cons_succ, List.map_cons, List.map_nil, List.getD_cons_zero, List.getD_cons_succ, World.size_alloc] at HS4_
            have HS4 := Lib.hid HS4_
            clear HS4_
            clear c0 f0 c1 f1 c2 f2 c3 f3 d4 d5 d7
            have d4 := HS4.out.cell (i := 2) rfl 4 _ rfl; have d5 := HS4.out.cell (i := 2) rfl 5 _ rfl; have d7 := HS4.out.cell (i := 2) rfl 7 _ rfl
            refine hK.out _ _ ?_ (fun hHeld => ?_)
            · exact ⟨d4, d5, d7⟩
            clear hK K
            try simp only [Act.put, List.setIfInBounds_toArray, List.set_cons_zero, List.set_cons_succ, Nat.zero_add]
            refine wpHd_done (by kernel_rfl) ?_
            simp only [List.drop_succ_cons, List.drop_zero]
            go_wp2_with fail
            refine NoPanic.normal ?_
            go_wp2_with fail
            go_meet
            exact ⟨w5.heap.size, gy, dy, ky, ey, fo1, fn1, fc1, co1, cn1, cc1, B1, As1, rfl, rfl, ⟨hA1, hB1, hT1⟩, HS4.out.pick [0, 1, 2, 4, 5, 6, 3] (by decide)⟩
    · go_simp
      have HS1_ := (HSA.out.alloc 74 4 1 #[.slice none 0 0, .slice none 0 0, .slice none 0 0, .slice none 0 0] rfl (by decide)).via (adrew1 _)
      try simp only [List.cons_append, List.nil_append, List.set_cons_zero, List.set_cons_succ, List.map_cons, List.map_nil, List.getD_cons_zero, List.getD_cons_succ, World.size_alloc] at HS1_
      have HS1 := Lib.hid HS1_
      clear HS1_
      clear d4 d5 d7
      have d4 := HS1.out.cell (i := 2) rfl 4 _ rfl; have d5 := HS1.out.cell (i := 2) rfl 5 _ rfl; have d7 := HS1.out.cell (i := 2) rfl 7 _ rfl
      refine hK.out _ _ ?_ (fun hHeld => ?_)
      · exact ⟨d4, d5, d7⟩
      clear hK K
      try simp only [Act.put, List.setIfInBounds_toArray, List.set_cons_zero, List.set_cons_succ, Nat.zero_add]
      refine wpHd_ready (rs := [5]) (by kernel_rfl) (by simp) ?_
      refine (RdyHd.cons (by simp only [List.getElem?_toArray, List.getElem?_cons_succ, List.getElem?_cons_zero] <;> rfl) (by decide) (fun K hK => ?_) RdyHd.nil)
      · go_simp
        go_at_call 35
        have ca := HS1.out.arrayY (i := 0) rfl HOY.out
        simp only [Ar.v] at ca
        refine ca.mono ?_
        rintro e w5 ⟨gy, dy, ky, ey, rfl, hdy, hey, h5⟩
        simp only [List.set_cons_zero] at h5
        have HS2 := Lib.hid h5
        clear ca h5 d4 d5 d7
        have d4 := HS2.out.cell (i := 2) rfl 4 _ rfl; have d5 := HS2.out.cell (i := 2) rfl 5 _ rfl; have d7 := HS2.out.cell (i := 2) rfl 7 _ rfl
        (try go_simp)
        refine hK.out _ _ ?_ (fun hHeld => ?_)
        · exact ⟨d4, d5, d7⟩
        clear hK K
        try simp only [Act.put, List.setIfInBounds_toArray, List.set_cons_zero, List.set_cons_succ, Nat.zero_add]
        refine wpHd_ready (rs := [8]) (by kernel_rfl) (by simp) ?_
        refine (RdyHd.cons (by simp only [List.getElem?_toArray, List.getElem?_cons_succ, List.getElem?_cons_zero] <;> rfl) (by decide) (fun K hK => ?_) RdyHd.nil)
        · go_simp
          go_at_call 19
          have ca := one_any (HS2.out.isY (i := 0) rfl HOY.out hdy hey) nn HN.out
          try simp only [Ar.v] at ca
          rw [HvF.out, HvI.out, HvZ.out, HvC.out, HvE.out] at ca
          refine ca.mono ?_
          rintro e w6 ⟨fo1, fn1, fc1, co1, cn1, cc1, B1, As1, rfl, h6, hA1, hB1, hT1⟩
          have HS3_ := HS2.out.add h6
          try simp only [List.cons_append, List.nil_append, List.set_cons_zero, List.set_cons_succ, List.map_cons, List.map_nil, List.getD_cons_zero, List.getD_cons_succ, World.size_alloc] at HS3_
          have HS3 := Lib.hid HS3_
          clear HS3_
          clear ca d4 d5 d7
          have d4 := HS3.out.cell (i := 2) rfl 4 _ rfl; have d5 := HS3.out.cell (i := 2) rfl 5 _ rfl; have d7 := HS3.out.cell (i := 2) rfl 7 _ rfl
          (try go_simp)
          (try simp only [Ar.v])
          refine hK.out _ _ ?_ (fun hHeld => ?_)
          · exact ⟨d4, d5, d7⟩
          clear hK K
          try simp only [Act.put, List.setIfInBounds_toArray, List.set_cons_zero, List.set_cons_succ, Nat.zero_add]
          refine wpHd_take (i := 9) (v := ?_) (by kernel_rfl) (by simp only [List.getElem?_toArray, List.getElem?_cons_succ, List.getElem?_cons_zero] <;> rfl) (by kernel_rfl) (fun _ _ _ h => h) (Or.inl ⟨by rfl, ?_⟩) (by assumption) ?_
          rotate_left
          · (intro wS hSw; (try dsimp only at hSw); go_simp <;> with_reducible rfl)
          try simp only [Act.put, List.setIfInBounds_toArray, List.set_cons_zero, List.set_cons_succ, Nat.zero_add]
          refine wpHd_take (i := 10) (v := ?_) (by kernel_rfl) (by simp only [List.getElem?_toArray, List.getElem?_cons_succ, List.getElem?_cons_zero] <;> rfl) (by kernel_rfl) (fun _ _ _ h => h) (Or.inl ⟨by rfl, ?_⟩) (by assumption) ?_
          rotate_left
          · (intro wS hSw; (try dsimp only at hSw); go_simp <;> with_reducible rfl)
          try simp only [Act.put, List.setIfInBounds_toArray, List.set_cons_zero, List.set_cons_succ, Nat.zero_add]
          refine wpHd_take (i := 11) (v := ?_) (by kernel_rfl) (by simp only [List.getElem?_toArray, List.getElem?_cons_succ, List.getElem?_cons_zero] <;> rfl) (by kernel_rfl) (fun _ _ _ h => h) (Or.inl ⟨by rfl, ?_⟩) (by assumption) ?_
          rotate_left
          · (intro wS hSw; (try dsimp only at hSw); go_simp <;> with_reducible rfl)
          try simp only [Act.put, List.setIfInBounds_toArray, List.set_cons_zero, List.set_cons_succ, Nat.zero_add]
          refine wpHd_ready (rs := [13]) (by kernel_rfl) (by simp) ?_
          refine (RdyHd.cons (by simp only [List.getElem?_toArray, List.getElem?_cons_succ, List.getElem?_cons_zero] <;> rfl) (by decide) (fun K hK => ?_) RdyHd.nil)
          · have c0 := HS3.out.cell (i := 3) rfl 0 _ rfl; have f0 := HS3.out.frozen (i := 3) rfl 0; have c1 := HS3.out.cell (i := 3) rfl 1 _ rfl; have f1 := HS3.out.frozen (i := 3) rfl 1; have c2 := HS3.out.cell (i := 3) rfl 2 _ rfl; have f2 := HS3.out.frozen (i := 3) rfl 2; have c3 := HS3.out.cell (i := 3) rfl 3 _ rfl; have f3 := HS3.out.frozen (i := 3) rfl 3
            go_simp
            have HS4_ := ((((HS3.out.put (i := 3) rfl 0 (.slice fo1 fn1 fc1)).put (i := 3) rfl 1 (.slice co1 cn1 cc1)).put (i := 3) rfl 2 (.slice B1.sa B1.sn B1.sc)).put (i := 3) rfl 3 (.slice B1.aa B1.an B1.ac))
            try simp only [List.cons_append, List.nil_append, List.set_cons_zero, List.set_cons_succ, List.map_cons, List.map_nil, List.getD_cons_zero, List.getD_cons_succ, World.size_alloc] at HS4_
            have HS4 := Lib.hid HS4_
            clear HS4_
            clear c0 f0 c1 f1 c2 f2 c3 f3 d4 d5 d7
            have d4 := HS4.out.cell (i := 2) rfl 4 _ rfl; have d5 := HS4.out.cell (i := 2) rfl 5 _ rfl; have d7 := HS4.out.cell (i := 2) rfl 7 _ rfl
            refine hK.out _ _ ?_ (fun hHeld => ?_)
            · exact ⟨d4, d5, d7⟩
            clear hK K
            try simp only [Act.put, List.setIfInBounds_toArray, List.set_cons_zero, List.set_cons_succ, Nat.zero_add]
            refine wpHd_done (by kernel_rfl) ?_
            simp only [List.drop_succ_cons, List.drop_zero]
            go_wp2_with fail
            refine NoPanic.normal ?_
            go_wp2_with fail
            go_meet
            exact ⟨w3.heap.size, gy, dy, ky, ey, fo1, fn1, fc1, co1, cn1, cc1, B1, As1, rfl, rfl, ⟨hA1, hB1, hT1⟩, HS4.out.pick [0, 1, 2, 4, 5, 6, 3] (by decide)⟩
  case rest =>
    obtain ⟨gb, gy, dy, ky, ey, fo1, fn1, fc1, co1, cn1, cc1, B1, As1, rfl, rfl, HF1, HQ0⟩ := hcut
    obtain ⟨w10, hU⟩ : ∃ z : World, z = wc := ⟨_, rfl⟩
    subst hU
    clear d4 d5 d7 HSA HS0 H1
    go_upto_region 4 with fail
    have HK0_ := HQ0.out.via (adrew1 w10)
    try simp only [List.cons_append, List.nil_append, List.set_cons_zero, List.set_cons_succ, List.map_cons, List.map_nil, List.getD_cons_zero, List.getD_cons_succ, World.size_alloc] at HK0_
    have HK0 := Lib.hid HK0_
    clear HK0_
    have d4 := HK0.out.cell (i := 2) rfl 4 _ rfl; have d5 := HK0.out.cell (i := 2) rfl 5 _ rfl
    refine wp_region_noPanic ?_
    refine wp_region_hd (S := (fun wS => wS.cell? ⟨b, 4, none⟩ = some (.slice y1 y2 y3) ∧ wS.cell? ⟨b, 5, none⟩ = some (.slice y4 y5 y6))) 6 (by kernel_rfl) (by kernel_rfl) ?_ (fun hHeld => ?_)
    · exact ⟨d4, d5⟩
    refine wpHd_take (i := 0) (v := ?_) (by kernel_rfl) (by simp only [List.getElem?_toArray, List.getElem?_cons_succ, List.getElem?_cons_zero] <;> rfl) (by kernel_rfl) (fun _ _ _ h => h) (Or.inl ⟨by rfl, ?_⟩) (by assumption) ?_
    rotate_left
    · (intro wS hSw; (try dsimp only at hSw); go_simp <;> with_reducible rfl)
    try simp only [Act.put, List.setIfInBounds_toArray, List.set_cons_zero, List.set_cons_succ, Nat.zero_add]
    refine wpHd_take (i := 1) (v := ?_) (by kernel_rfl) (by simp only [List.getElem?_toArray, List.getElem?_cons_succ, List.getElem?_cons_zero] <;> rfl) (by kernel_rfl) (fun _ _ _ h => h) (Or.inl ⟨by rfl, ?_⟩) (by assumption) ?_
    rotate_left
    · (intro wS hSw; (try dsimp only at hSw); go_simp <;> with_reducible rfl)
    try simp only [Act.put, List.setIfInBounds_toArray, List.set_cons_zero, List.set_cons_succ, Nat.zero_add]
    refine wpHd_take (i := 2) (v := ?_) (by kernel_rfl) (by simp only [List.getElem?_toArray, List.getElem?_cons_succ, List.getElem?_cons_zero] <;> rfl) (by kernel_rfl) (fun _ _ _ h => h) (Or.inl ⟨by rfl, ?_⟩) (by assumption) ?_
    rotate_left
    · (intro wS hSw; (try dsimp only at hSw); go_simp <;> with_reducible rfl)
    try simp only [Act.put, List.setIfInBounds_toArray, List.set_cons_zero, List.set_cons_succ, Nat.zero_add]
    refine wpHd_take (i := 3) (v := ?_) (by kernel_rfl) (by simp only [List.getElem?_toArray, List.getElem?_cons_succ, List.getElem?_cons_zero] <;> rfl) (by kernel_rfl) (fun _ _ _ h => h) (Or.inl ⟨by rfl, ?_⟩) (by assumption) ?_
    rotate_left
    · (intro wS hSw; (try dsimp only at hSw); go_simp <;> with_reducible rfl)
    try simp only [Act.put, List.setIfInBounds_toArray, List.set_cons_zero, List.set_cons_succ, Nat.zero_add]
    refine wpHd_take (i := 4) (v := ?_) (by kernel_rfl) (by simp only [List.getElem?_toArray, List.getElem?_cons_succ, List.getElem?_cons_zero] <;> rfl) (by kernel_rfl) (fun _ _ _ h => h) (Or.inl ⟨by rfl, ?_⟩) (by assumption) ?_
    rotate_left
    · (intro wS hSw; (try dsimp only at hSw); go_simp <;> with_reducible rfl)
    try simp only [Act.put, List.setIfInBounds_toArray, List.set_cons_zero, List.set_cons_succ, Nat.zero_add]
    refine wpHd_ready (rs := [5]) (by kernel_rfl) (by simp) ?_
    refine (RdyHd.cons (by simp only [List.getElem?_toArray, List.getElem?_cons_succ, List.getElem?_cons_zero] <;> rfl) (by decide) (fun K hK => ?_) RdyHd.nil)
    · go_simp
      go_at_call 36
      have ca := HK0.out.keptY (i := 0) rfl HOY.out
      simp only [Ar.v] at ca
      refine ca.mono ?_
      rintro e w11 ⟨rfl, h5⟩
      have HQ1_ := h5
      try simp only [List.cons_append, List.nil_append, List.set_cons_zero, List.set_cons_succ, List.map_cons, List.map_nil, List.getD_cons_zero, List.getD_cons_succ, World.size_alloc] at HQ1_
      have HQ1 := Lib.hid HQ1_
      clear HQ1_
      clear ca h5 d4 d5
      have d4 := HQ1.out.cell (i := 2) rfl 4 _ rfl; have d5 := HQ1.out.cell (i := 2) rfl 5 _ rfl
      (try go_simp)
      refine hK.out _ _ ?_ (fun hHeld => ?_)
      · exact ⟨d4, d5⟩
      clear hK K
      try simp only [Act.put, List.setIfInBounds_toArray, List.set_cons_zero, List.set_cons_succ, Nat.zero_add]
      refine wpHd_done (by kernel_rfl) ?_
      simp only [List.drop_succ_cons, List.drop_zero]
      go_wp2_with fail
      refine NoPanic.normal ?_
      clear d4 d5 HK0
      skip
      have d4 := HQ1.out.cell (i := 2) rfl 4 _ rfl; have d5 := HQ1.out.cell (i := 2) rfl 5 _ rfl; have d7 := HQ1.out.cell (i := 2) rfl 7 _ rfl
      have cr := rone_any (HOY.out.below HQ1.out.belowN (Nat.le_refl _)) nn HN.out
      try simp only [Ar.v] at cr
      rw [HvF.out, HvI.out, HvZ.out, HvC.out, HvE.out] at cr
      have CR := Lib.hid cr
      clear cr
      go_wp2_with fail
      refine CR.out.mono ?_; rintro e w20 ⟨fo2, fn2, fc2, co2, cn2, cc2, B2, As2, rfl, h6, hA2, hB2, hT2⟩
      obtain ⟨WE, HWE⟩ : ∃ z, Hid (w20.alloc (.cells #[.slice fo2 fn2 fc2, .slice co2 cn2 cc2, .slice B2.sa B2.sn B2.sc, .slice B2.aa B2.an B2.ac] 74) = z) := ⟨_, rfl⟩
      have h7 := (HQ1.out.add h6).alloc 74 4 1 #[.slice fo2 fn2 fc2, .slice co2 cn2 cc2, .slice B2.sa B2.sn B2.sc, .slice B2.aa B2.an B2.ac] rfl (by decide)
      obtain ⟨b2, HB2⟩ : ∃ z, Hid (w20.heap.size = z) := ⟨_, rfl⟩
      rw [HWE.out, HB2.out] at h7
      have HE_ := h7
      try simp only [List.cons_append, List.nil_append, List.set_cons_zero, List.set_cons_succ, List.map_cons, List.map_nil, List.getD_cons_zero, List.getD_cons_succ, World.size_alloc] at HE_
      have HE := Lib.hid HE_
      clear HE_
      clear h7 CR d4 d5 d7
      have HF2 : Hid (As2.map Ar.sa2 = vC ∧ B2.s = vI ∧ B2.a = vZ) := ⟨hA2, hB2, hT2⟩
      try simp only [Ar.v]
      go_upto_region 6 with fail
      rw [HWE.out, HB2.out]
      have p0 := HE.out.cell (i := 6) rfl 0 _ rfl
      have q0 := HE.out.cell (i := 10) rfl 0 _ rfl
      have p1 := HE.out.cell (i := 6) rfl 1 _ rfl
      have q1 := HE.out.cell (i := 10) rfl 1 _ rfl
      have p2 := HE.out.cell (i := 6) rfl 2 _ rfl
      have q2 := HE.out.cell (i := 10) rfl 2 _ rfl
      have p3 := HE.out.cell (i := 6) rfl 3 _ rfl
      have q3 := HE.out.cell (i := 10) rfl 3 _ rfl
      have ce := eqcells_true (HE.out.ls (i := 3) rfl) (HE.out.ls (i := 7) rfl) (HE.out.ars (i := 4) rfl) (HE.out.ars (i := 8) rfl) (HF1.out.1.trans HF2.out.1.symm) (HE.out.isA (i := 5) rfl) (HE.out.isA (i := 9) rfl) ⟨HF1.out.2.1.trans HF2.out.2.1.symm, HF1.out.2.2.trans HF2.out.2.2.symm⟩
      have CE0 := Lib.hid ce
      clear ce
      go_wp2_with fail
      refine CE0.out.mono ?_; rintro e w30 ⟨rfl, hb9⟩
      have HE0_ := HE.out.via hb9
      try simp only [List.cons_append, List.nil_append, List.set_cons_zero, List.set_cons_succ, List.map_cons, List.map_nil, List.getD_cons_zero, List.getD_cons_succ, World.size_alloc] at HE0_
      have HE0 := Lib.hid HE0_
      clear HE0_
      clear hb9 p0 q0 p1 q1 p2 q2 p3 q3
      have HF : Hid (PlaysP w0 hb G (.returned (.bool true)) w30) := ⟨rfl, HE0.out.pick [0, 1] (by decide)⟩
      go_wp2
      exact bodyPost_ret (v := .bool true) (by simp [results, Try.results9, go_sem, *]) rfl HF.out
set_option maxRecDepth 100000 in
set_option maxHeartbeats 6400000 in
theorem cplays_2 {w0 w : World} {hb : Nat} {G : Pt} (H : Sp Non w0 w [Pt.hands hb none none none none, G]) {o : OpC} (hO : o.Is w0) (hk : o.k = 2) : Calls Try.prog 9 #[.pointer (some ⟨hb, 0, none⟩), o.v] w (PlaysP w0 hb G) := by
  obtain ⟨kk, on, ⟨x1, x2, x3, x4, x5, x6, xs, xt⟩, ⟨y1, y2, y3, y4, y5, y6, ys, yt⟩, mm, nn, ll, po, pn, pc, pf, qo, qn, qc, qs, tl⟩ := o
  obtain ⟨hX, hY, hF, hL, hM, hN, hLL, hBG⟩ := hO
  simp only at hk hX hY hF hL hM hN hLL hBG
  subst hk
  have HOX := Lib.hid hX
  have HOY := Lib.hid hY
  have HOF := Lib.hid hF
  have HOL := Lib.hid hL
  have HM := Lib.hid hM
  have HN := Lib.hid hN
  have HLL := Lib.hid hLL
  have HBG := Lib.hid hBG
  simp only [OpC.v]
  obtain ⟨b, HB⟩ : ∃ z, Hid (w.heap.size = z) := ⟨_, rfl⟩
  obtain ⟨W, HW⟩ : ∃ z, Hid (w.alloc (.cells #[.int .i64 2, .int .i64 on, .slice x1 x2 x3, .slice x4 x5 x6, .slice y1 y2 y3, .slice y4 y5 y6, .int .i64 mm, .int .i64 nn, .int .i64 ll, .slice po pn pc, .slice qo qn qc, .bool tl] 47) = z) := ⟨_, rfl⟩
  have h1 := H.alloc 47 12 1 #[.int .i64 2, .int .i64 on, .slice x1 x2 x3, .slice x4 x5 x6, .slice y1 y2 y3, .slice y4 y5 y6, .int .i64 mm, .int .i64 nn, .int .i64 ll, .slice po pn pc, .slice qo qn qc, .bool tl] rfl (by decide)
  rw [HW.out, HB.out] at h1
  have H1_ := h1
  try simp only [List.cons_append, List.nil_append, List.set_cons_zero, List.set_cons_succ, List.map_cons, List.map_nil, List.getD_cons_zero, List.getD_cons_succ, World.size_alloc] at H1_
  have H1 := Lib.hid H1_
  clear H1_
  clear h1 H hX hY hF hL hM hN hLL hBG
  obtain ⟨vF, HvF⟩ : ∃ z, Hid (tw0 (twE xs xt ys yt mm nn) (agL (onF xs xt mm) (onF ys yt nn)) = z) := ⟨_, rfl⟩
  obtain ⟨vI, HvI⟩ : ∃ z, Hid (tw0 (twE xs xt ys yt mm nn) (onI xs xt mm) = z) := ⟨_, rfl⟩
  obtain ⟨vZ, HvZ⟩ : ∃ z, Hid (tw0 (twE xs xt ys yt mm nn) (onZ xs xt mm) = z) := ⟨_, rfl⟩
  obtain ⟨vJ, HvJ⟩ : ∃ z, Hid (tw0 (twE xs xt ys yt mm nn) (onI ys yt nn) = z) := ⟨_, rfl⟩
  obtain ⟨vY, HvY⟩ : ∃ z, Hid (tw0 (twE xs xt ys yt mm nn) (onZ ys yt nn) = z) := ⟨_, rfl⟩
  obtain ⟨vC, HvC⟩ : ∃ z, Hid (tw0 (twE xs xt ys yt mm nn) (onC xs xt mm) = z) := ⟨_, rfl⟩
  obtain ⟨vD, HvD⟩ : ∃ z, Hid (tw0 (twE xs xt ys yt mm nn) (onC ys yt nn) = z) := ⟨_, rfl⟩
  obtain ⟨vE, HvE⟩ : ∃ z, Hid (twE xs xt ys yt mm nn = z) := ⟨_, rfl⟩
  have x0 := H1.out.cell (i := 2) rfl 0 _ rfl
  go_enter Try.func9, Try.ntmps9
  go_upto_region 1 with fail
  rw [HW.out, HB.out]
  go_upto_region 8 with fail
  obtain ⟨w3, Hw3⟩ : ∃ z, Hid (W = z) := ⟨_, rfl⟩
  rw [Hw3.out] at H1 ⊢
  have HSA := H1
  clear x0
  have HS0_ := HSA.out.via (adrew1 w3)
  try simp only [List.cons_append, List.nil_append, List.set_cons_zero, List.set_cons_succ, List.map_cons, List.map_nil, List.getD_cons_zero, List.getD_cons_succ, World.size_alloc] at HS0_
  have HS0 := Lib.hid HS0_
  clear HS0_
  have d2 := HS0.out.cell (i := 2) rfl 2 _ rfl; have d3 := HS0.out.cell (i := 2) rfl 3 _ rfl; have d4 := HS0.out.cell (i := 2) rfl 4 _ rfl; have d5 := HS0.out.cell (i := 2) rfl 5 _ rfl; have d6 := HS0.out.cell (i := 2) rfl 6 _ rfl; have d7 := HS0.out.cell (i := 2) rfl 7 _ rfl
  go_cut [10, 11] from 83 to 102 (fun (v10 v11 : Value) (wx : World) => ∃ (gb : Nat) (gx dx kx ex gy dy ky ey : Nat) (fo1 : Option Addr) (fn1 fc1 : Nat) (lo1 : Option Addr) (ln1 lc1 : Nat) (ro1 : Option Addr) (rn1 rc1 : Nat) (B1 D1 : Ar) (As1 Es1 : List Ar), v10 = .pointer (some ⟨gb, 0, none⟩) ∧ v11 = .int .i64 vE ∧ Hid (As1.map Ar.sa2 = vC ∧ Es1.map Ar.sa2 = vD ∧ B1.s = vI ∧ B1.a = vZ ∧ D1.s = vJ ∧ D1.a = vY) ∧ Hid (Sp Non w0 wx [Pt.hands hb (some (laid4 xs xt gx dx kx ex)) (some (laid4 ys yt gy dy ky ey)) none none, G, Pt.row ⟨47, 12, some ⟨b, 0, none⟩, 1, 1, [.int .i64 2, .int .i64 on, .slice x1 x2 x3, .slice x4 x5 x6, .slice y1 y2 y3, .slice y4 y5 y6, .int .i64 mm, .int .i64 nn, .int .i64 ll, .slice po pn pc, .slice qo qn qc, .bool tl]⟩, Pt.ints 3 fo1 fn1 fc1 vF, Pt.arrs lo1 ln1 lc1 As1, Pt.arrs ro1 rn1 rc1 Es1, Pt.arr B1, Pt.arr D1, Pt.row ⟨105, 7, some ⟨gb, 0, none⟩, 1, 1, [.slice fo1 fn1 fc1, .slice lo1 ln1 lc1, .slice ro1 rn1 rc1, .slice B1.sa B1.sn B1.sc, .slice B1.aa B1.an B1.ac, .slice D1.sa D1.sn D1.sc, .slice D1.aa D1.an D1.ac]⟩]))
  case first =>
    go_upto_region 8 with fail
    refine wp_region_noPanic ?_
    refine wp_region_hd (S := (fun wS => wS.cell? ⟨b, 2, none⟩ = some (.slice x1 x2 x3) ∧ wS.cell? ⟨b, 3, none⟩ = some (.slice x4 x5 x6) ∧ wS.cell? ⟨b, 4, none⟩ = some (.slice y1 y2 y3) ∧ wS.cell? ⟨b, 5, none⟩ = some (.slice y4 y5 y6) ∧ wS.cell? ⟨b, 6, none⟩ = some (.int .i64 mm) ∧ wS.cell? ⟨b, 7, none⟩ = some (.int .i64 nn))) 22 (by kernel_rfl) (by kernel_rfl) ?_ (fun hHeld => ?_)
    · exact ⟨d2, d3, d4, d5, d6, d7⟩
    refine wpHd_take (i := 0) (v := ?_) (by kernel_rfl) (by simp only [List.getElem?_toArray, List.getElem?_cons_succ, List.getElem?_cons_zero] <;> rfl) (by kernel_rfl) (fun _ _ _ h => h) (Or.inl ⟨by rfl, ?_⟩) (by assumption) ?_
    rotate_left
    · (intro wS hSw; (try dsimp only at hSw); go_simp <;> with_reducible rfl)
    try simp only [Act.put, List.setIfInBounds_toArray, List.set_cons_zero, List.set_cons_succ, Nat.zero_add]
    refine wpHd_take (i := 1) (v := ?_) (by kernel_rfl) (by simp only [List.getElem?_toArray, List.getElem?_cons_succ, List.getElem?_cons_zero] <;> rfl) (by kernel_rfl) (fun _ _ _ h => h) (Or.inl ⟨by rfl, ?_⟩) (by assumption) ?_
    rotate_left
    · (intro wS hSw; (try dsimp only at hSw); go_simp <;> with_reducible rfl)
    try simp only [Act.put, List.setIfInBounds_toArray, List.set_cons_zero, List.set_cons_succ, Nat.zero_add]
    refine wpHd_take (i := 2) (v := ?_) (by kernel_rfl) (by simp only [List.getElem?_toArray, List.getElem?_cons_succ, List.getElem?_cons_zero] <;> rfl) (by kernel_rfl) (fun _ _ _ h => h) (Or.inl ⟨by rfl, ?_⟩) (by assumption) ?_
    rotate_left
    · (intro wS hSw; (try dsimp only at hSw); go_simp <;> with_reducible rfl)
    try simp only [Act.put, List.setIfInBounds_toArray, List.set_cons_zero, List.set_cons_succ, Nat.zero_add]
    refine wpHd_take (i := 3) (v := ?_) (by kernel_rfl) (by simp only [List.getElem?_toArray, List.getElem?_cons_succ, List.getElem?_cons_zero] <;> rfl) (by kernel_rfl) (fun _ _ _ h => h) (Or.inl ⟨by rfl, ?_⟩) (by assumption) ?_
    rotate_left
    · (intro wS hSw; (try dsimp only at hSw); go_simp <;> with_reducible rfl)
    try simp only [Act.put, List.setIfInBounds_toArray, List.set_cons_zero, List.set_cons_succ, Nat.zero_add]
    refine wpHd_take (i := 4) (v := ?_) (by kernel_rfl) (by simp only [List.getElem?_toArray, List.getElem?_cons_succ, List.getElem?_cons_zero] <;> rfl) (by kernel_rfl) (fun _ _ _ h => h) (Or.inl ⟨by rfl, ?_⟩) (by assumption) ?_
    rotate_left
    · (intro wS hSw; (try dsimp only at hSw); go_simp <;> with_reducible rfl)
    try simp only [Act.put, List.setIfInBounds_toArray, List.set_cons_zero, List.set_cons_succ, Nat.zero_add]
    refine wpHd_take (i := 6) (v := ?_) (by kernel_rfl) (by simp only [List.getElem?_toArray, List.getElem?_cons_succ, List.getElem?_cons_zero] <;> rfl) (by kernel_rfl) (fun _ _ _ h => h) (Or.inl ⟨by rfl, ?_⟩) (by assumption) ?_
    rotate_left
    · (intro wS hSw; (try dsimp only at hSw); go_simp <;> with_reducible rfl)
    try simp only [Act.put, List.setIfInBounds_toArray, List.set_cons_zero, List.set_cons_succ, Nat.zero_add]
    refine wpHd_take (i := 7) (v := ?_) (by kernel_rfl) (by simp only [List.getElem?_toArray, List.getElem?_cons_succ, List.getElem?_cons_zero] <;> rfl) (by kernel_rfl) (fun _ _ _ h => h) (Or.inl ⟨by rfl, ?_⟩) (by assumption) ?_
    rotate_left
    · (intro wS hSw; (try dsimp only at hSw); go_simp <;> with_reducible rfl)
    try simp only [Act.put, List.setIfInBounds_toArray, List.set_cons_zero, List.set_cons_succ, Nat.zero_add]
    refine wpHd_take (i := 8) (v := ?_) (by kernel_rfl) (by simp only [List.getElem?_toArray, List.getElem?_cons_succ, List.getElem?_cons_zero] <;> rfl) (by kernel_rfl) (fun _ _ _ h => h) (Or.inl ⟨by rfl, ?_⟩) (by assumption) ?_
    rotate_left
    · (intro wS hSw; (try dsimp only at hSw); go_simp <;> with_reducible rfl)
    try simp only [Act.put, List.setIfInBounds_toArray, List.set_cons_zero, List.set_cons_succ, Nat.zero_add]
    refine wpHd_take (i := 9) (v := ?_) (by kernel_rfl) (by simp only [List.getElem?_toArray, List.getElem?_cons_succ, List.getElem?_cons_zero] <;> rfl) (by kernel_rfl) (fun _ _ _ h => h) (Or.inl ⟨by rfl, ?_⟩) (by assumption) ?_
    rotate_left
    · (intro wS hSw; (try dsimp only at hSw); go_simp <;> with_reducible rfl)
    try simp only [Act.put, List.setIfInBounds_toArray, List.set_cons_zero, List.set_cons_succ, Nat.zero_add]
    refine wpHd_take (i := 10) (v := ?_) (by kernel_rfl) (by simp only [List.getElem?_toArray, List.getElem?_cons_succ, List.getElem?_cons_zero] <;> rfl) (by kernel_rfl) (fun _ _ _ h => h) (Or.inl ⟨by rfl, ?_⟩) (by assumption) ?_
    rotate_left
    · (intro wS hSw; (try dsimp only at hSw); go_simp <;> with_reducible rfl)
    try simp only [Act.put, List.setIfInBounds_toArray, List.set_cons_zero, List.set_cons_succ, Nat.zero_add]
    refine wpHd_take (i := 12) (v := ?_) (by kernel_rfl) (by simp only [List.getElem?_toArray, List.getElem?_cons_succ, List.getElem?_cons_zero] <;> rfl) (by kernel_rfl) (fun _ _ _ h => h) (Or.inl ⟨by rfl, ?_⟩) (by assumption) ?_
    rotate_left
    · (intro wS hSw; (try dsimp only at hSw); go_simp <;> with_reducible rfl)
    try simp only [Act.put, List.setIfInBounds_toArray, List.set_cons_zero, List.set_cons_succ, Nat.zero_add]
    refine wpHd_take (i := 13) (v := ?_) (by kernel_rfl) (by simp only [List.getElem?_toArray, List.getElem?_cons_succ, List.getElem?_cons_zero] <;> rfl) (by kernel_rfl) (fun _ _ _ h => h) (Or.inl ⟨by rfl, ?_⟩) (by assumption) ?_
    rotate_left
    · (intro wS hSw; (try dsimp only at hSw); go_simp <;> with_reducible rfl)
    try simp only [Act.put, List.setIfInBounds_toArray, List.set_cons_zero, List.set_cons_succ, Nat.zero_add]
    refine wpHd_take (i := 14) (v := ?_) (by kernel_rfl) (by simp only [List.getElem?_toArray, List.getElem?_cons_succ, List.getElem?_cons_zero] <;> rfl) (by kernel_rfl) (fun _ _ _ h => h) (Or.inl ⟨by rfl, ?_⟩) (by assumption) ?_
    rotate_left
    · (intro wS hSw; (try dsimp only at hSw); go_simp <;> with_reducible rfl)
    try simp only [Act.put, List.setIfInBounds_toArray, List.set_cons_zero, List.set_cons_succ, Nat.zero_add]
    refine wpHd_take (i := 15) (v := ?_) (by kernel_rfl) (by simp only [List.getElem?_toArray, List.getElem?_cons_succ, List.getElem?_cons_zero] <;> rfl) (by kernel_rfl) (fun _ _ _ h => h) (Or.inl ⟨by rfl, ?_⟩) (by assumption) ?_
    rotate_left
    · (intro wS hSw; (try dsimp only at hSw); go_simp <;> with_reducible rfl)
    try simp only [Act.put, List.setIfInBounds_toArray, List.set_cons_zero, List.set_cons_succ, Nat.zero_add]
    refine wpHd_ready (rs := [5, 20]) (by kernel_rfl) (by simp) ?_
    refine (RdyHd.cons (by simp only [List.getElem?_toArray, List.getElem?_cons_succ, List.getElem?_cons_zero] <;> rfl) (by decide) (fun K hK => ?_) (RdyHd.cons (by simp only [List.getElem?_toArray, List.getElem?_cons_succ, List.getElem?_cons_zero] <;> rfl) (by decide) (fun K hK => ?_) RdyHd.nil))
    · go_simp
      go_at_call 35
      have ca := HS0.out.arrayX (i := 0) rfl HOX.out
      simp only [Ar.v] at ca
      refine ca.mono ?_
      rintro e w5 ⟨gx, dx, kx, ex, rfl, hdx, hex, h5⟩
      simp only [List.set_cons_zero] at h5
      have HS1 := Lib.hid h5
      clear ca h5 d2 d3 d4 d5 d6 d7
      have d2 := HS1.out.cell (i := 2) rfl 2 _ rfl; have d3 := HS1.out.cell (i := 2) rfl 3 _ rfl; have d4 := HS1.out.cell (i := 2) rfl 4 _ rfl; have d5 := HS1.out.cell (i := 2) rfl 5 _ rfl; have d6 := HS1.out.cell (i := 2) rfl 6 _ rfl; have d7 := HS1.out.cell (i := 2) rfl 7 _ rfl
      (try go_simp)
      refine hK.out _ _ ?_ (fun hHeld => ?_)
      · exact ⟨d2, d3, d4, d5, d6, d7⟩
      clear hK K
      try simp only [Act.put, List.setIfInBounds_toArray, List.set_cons_zero, List.set_cons_succ, Nat.zero_add]
      refine wpHd_ready (rs := [11, 20]) (by kernel_rfl) (by simp) ?_
      refine (RdyHd.cons (by simp only [List.getElem?_toArray, List.getElem?_cons_succ, List.getElem?_cons_zero] <;> rfl) (by decide) (fun K hK => ?_) (RdyHd.cons (by simp only [List.getElem?_toArray, List.getElem?_cons_succ, List.getElem?_cons_zero] <;> rfl) (by decide) (fun K hK => ?_) RdyHd.nil))
      · go_simp
        go_at_call 35
        have ca := HS1.out.arrayY (i := 0) rfl HOY.out
        simp only [Ar.v] at ca
        refine ca.mono ?_
        rintro e w6 ⟨gy, dy, ky, ey, rfl, hdy, hey, h5⟩
        simp only [List.set_cons_zero] at h5
        have HS2 := Lib.hid h5
        clear ca h5 d2 d3 d4 d5 d6 d7
        have d2 := HS2.out.cell (i := 2) rfl 2 _ rfl; have d3 := HS2.out.cell (i := 2) rfl 3 _ rfl; have d4 := HS2.out.cell (i := 2) rfl 4 _ rfl; have d5 := HS2.out.cell (i := 2) rfl 5 _ rfl; have d6 := HS2.out.cell (i := 2) rfl 6 _ rfl; have d7 := HS2.out.cell (i := 2) rfl 7 _ rfl
        (try go_simp)
        refine hK.out _ _ ?_ (fun hHeld => ?_)
        · exact ⟨d2, d3, d4, d5, d6, d7⟩
        clear hK K
        try simp only [Act.put, List.setIfInBounds_toArray, List.set_cons_zero, List.set_cons_succ, Nat.zero_add]
        refine wpHd_ready (rs := [16, 20]) (by kernel_rfl) (by simp) ?_
        refine (RdyHd.cons (by simp only [List.getElem?_toArray, List.getElem?_cons_succ, List.getElem?_cons_zero] <;> rfl) (by decide) (fun K hK => ?_) (RdyHd.cons (by simp only [List.getElem?_toArray, List.getElem?_cons_succ, List.getElem?_cons_zero] <;> rfl) (by decide) (fun K hK => ?_) RdyHd.nil))
        · go_simp
          go_at_call 41
          have ca := two_any (HS2.out.isX (i := 0) rfl HOX.out hdx hex) (HS2.out.isY (i := 0) rfl HOY.out hdy hey) mm nn HM.out HN.out
          try simp only [Ar.v] at ca
          rw [HvF.out, HvI.out, HvZ.out, HvJ.out, HvY.out, HvC.out, HvD.out, HvE.out] at ca
          refine ca.mono ?_
          rintro e w7 ⟨fo1, fn1, fc1, lo1, ln1, lc1, ro1, rn1, rc1, B1, D1, As1, Es1, rfl, h6, hA1, hE1, hB1, hT1, hD1, hU1⟩
          have HS3_ := HS2.out.add h6
          try simp only [List.cons_append, List.nil_append, List.set_cons_zero, List.set_cons_succ, List.map_cons, List.map_nil, List.getD_cons_zero, List.getD_cons_succ, World.size_alloc] at HS3_
          have HS3 := Lib.hid HS3_
          clear HS3_
          clear ca d2 d3 d4 d5 d6 d7
          have d2 := HS3.out.cell (i := 2) rfl 2 _ rfl; have d3 := HS3.out.cell (i := 2) rfl 3 _ rfl; have d4 := HS3.out.cell (i := 2) rfl 4 _ rfl; have d5 := HS3.out.cell (i := 2) rfl 5 _ rfl; have d6 := HS3.out.cell (i := 2) rfl 6 _ rfl; have d7 := HS3.out.cell (i := 2) rfl 7 _ rfl
          (try go_simp)
          (try simp only [Ar.v])
          refine hK.out _ _ ?_ (fun hHeld => ?_)
          · exact ⟨d2, d3, d4, d5, d6, d7⟩
          clear hK K
          try simp only [Act.put, List.setIfInBounds_toArray, List.set_cons_zero, List.set_cons_succ, Nat.zero_add]
          refine wpHd_take (i := 17) (v := ?_) (by kernel_rfl) (by simp only [List.getElem?_toArray, List.getElem?_cons_succ, List.getElem?_cons_zero] <;> rfl) (by kernel_rfl) (fun _ _ _ h => h) (Or.inl ⟨by rfl, ?_⟩) (by assumption) ?_
          rotate_left
          · (intro wS hSw; (try dsimp only at hSw); go_simp <;> with_reducible rfl)
          try simp only [Act.put, List.setIfInBounds_toArray, List.set_cons_zero, List.set_cons_succ, Nat.zero_add]
          refine wpHd_take (i := 18) (v := ?_) (by kernel_rfl) (by simp only [List.getElem?_toArray, List.getElem?_cons_succ, List.getElem?_cons_zero] <;> rfl) (by kernel_rfl) (fun _ _ _ h => h) (Or.inl ⟨by rfl, ?_⟩) (by assumption) ?_
          rotate_left
          · (intro wS hSw; (try dsimp only at hSw); go_simp <;> with_reducible rfl)
          try simp only [Act.put, List.setIfInBounds_toArray, List.set_cons_zero, List.set_cons_succ, Nat.zero_add]
          refine wpHd_take (i := 19) (v := ?_) (by kernel_rfl) (by simp only [List.getElem?_toArray, List.getElem?_cons_succ, List.getElem?_cons_zero] <;> rfl) (by kernel_rfl) (fun _ _ _ h => h) (Or.inl ⟨by rfl, ?_⟩) (by assumption) ?_
          rotate_left
          · (intro wS hSw; (try dsimp only at hSw); go_simp <;> with_reducible rfl)
          try simp only [Act.put, List.setIfInBounds_toArray, List.set_cons_zero, List.set_cons_succ, Nat.zero_add]
          refine wpHd_ready (rs := [20]) (by kernel_rfl) (by simp) ?_
          refine (RdyHd.cons (by simp only [List.getElem?_toArray, List.getElem?_cons_succ, List.getElem?_cons_zero] <;> rfl) (by decide) (fun K hK => ?_) RdyHd.nil)
          · go_simp
            have HS4_ := HS3.out.alloc 105 7 1 #[.slice none 0 0, .slice none 0 0, .slice none 0 0, .slice none 0 0, .slice none 0 0, .slice none 0 0, .slice none 0 0] rfl (by decide)
            try simp only [List.cons_append, List.nil_append, List.set_cons_zero, List.set_cons_succ, List.map_cons, List.map_nil, List.getD_cons_zero, List.getD_cons_succ, World.size_alloc] at HS4_
            have HS4 := Lib.hid HS4_
            clear HS4_
            clear d2 d3 d4 d5 d6 d7
            have d2 := HS4.out.cell (i := 2) rfl 2 _ rfl; have d3 := HS4.out.cell (i := 2) rfl 3 _ rfl; have d4 := HS4.out.cell (i := 2) rfl 4 _ rfl; have d5 := HS4.out.cell (i := 2) rfl 5 _ rfl; have d6 := HS4.out.cell (i := 2) rfl 6 _ rfl; have d7 := HS4.out.cell (i := 2) rfl 7 _ rfl
            refine hK.out _ _ ?_ (fun hHeld => ?_)
            · exact ⟨d2, d3, d4, d5, d6, d7⟩
            clear hK K
            try simp only [Act.put, List.setIfInBounds_toArray, List.set_cons_zero, List.set_cons_succ, Nat.zero_add]
            refine wpHd_ready (rs := [21]) (by kernel_rfl) (by simp) ?_
            refine (RdyHd.cons (by simp only [List.getElem?_toArray, List.getElem?_cons_succ, List.getElem?_cons_zero] <;> rfl) (by decide) (fun K hK => ?_) RdyHd.nil)
            · have c0 := HS4.out.cell (i := 8) rfl 0 _ rfl; have f0 := HS4.out.frozen (i := 8) rfl 0; have c1 := HS4.out.cell (i := 8) rfl 1 _ rfl; have f1 := HS4.out.frozen (i := 8) rfl 1; have c2 := HS4.out.cell (i := 8) rfl 2 _ rfl; have f2 := HS4.out.frozen (i := 8) rfl 2; have c3 := HS4.out.cell (i := 8) rfl 3 _ rfl; have f3 := HS4.out.frozen (i := 8) rfl 3; have c4 := HS4.out.cell (i := 8) rfl 4 _ rfl; have f4 := HS4.out.frozen (i := 8) rfl 4; have c5 := HS4.out.cell (i := 8) rfl 5 _ rfl; have f5 := HS4.out.frozen (i := 8) rfl 5; have c6 := HS4.out.cell (i := 8) rfl 6 _ rfl; have f6 := HS4.out.frozen (i := 8) rfl 6
              go_simp
              have HS5_ := HS3.out.alloc 105 7 1 #[.slice fo1 fn1 fc1, .slice lo1 ln1 lc1, .slice ro1 rn1 rc1, .slice B1.sa B1.sn B1.sc, .slice B1.aa B1.an B1.ac, .slice D1.sa D1.sn D1.sc, .slice D1.aa D1.an D1.ac] rfl (by decide)
              try simp only [List.cons_append, List.nil_append, List.set_cons_zero, List.set_cons_succ, List.map_cons, List.map_nil, List.getD_cons_zero, List.getD_cons_succ, World.size_alloc] at HS5_
              have HS5 := Lib.hid HS5_
              clear HS5_
              clear c0 f0 c1 f1 c2 f2 c3 f3 c4 f4 c5 f5 c6 f6 d2 d3 d4 d5 d6 d7
              have d2 := HS5.out.cell (i := 2) rfl 2 _ rfl; have d3 := HS5.out.cell (i := 2) rfl 3 _ rfl; have d4 := HS5.out.cell (i := 2) rfl 4 _ rfl; have d5 := HS5.out.cell (i := 2) rfl 5 _ rfl; have d6 := HS5.out.cell (i := 2) rfl 6 _ rfl; have d7 := HS5.out.cell (i := 2) rfl 7 _ rfl
              refine hK.out _ _ ?_ (fun hHeld => ?_)
              · exact ⟨d2, d3, d4, d5, d6, d7⟩
              clear hK K
              try simp only [Act.put, List.setIfInBounds_toArray, List.set_cons_zero, List.set_cons_succ, Nat.zero_add]
              refine wpHd_done (by kernel_rfl) ?_
              simp only [List.drop_succ_cons, List.drop_zero]
              go_wp2_with fail
              refine NoPanic.normal ?_
              go_wp2_with fail
              go_meet
              exact ⟨w7.heap.size, gx, dx, kx, ex, gy, dy, ky, ey, fo1, fn1, fc1, lo1, ln1, lc1, ro1, rn1, rc1, B1, D1, As1, Es1, rfl, rfl, ⟨hA1, hE1, hB1, hT1, hD1, hU1⟩, HS5.out.pick [0, 1, 2, 3, 4, 5, 6, 7, 8] (by decide)⟩
        · go_simp
          have HS3_ := HS2.out.alloc 105 7 1 #[.slice none 0 0, .slice none 0 0, .slice none 0 0, .slice none 0 0, .slice none 0 0, .slice none 0 0, .slice none 0 0] rfl (by decide)
          try simp only [List.cons_append, List.nil_append, List.set_cons_zero, List.set_cons_succ, List.map_cons, List.map_nil, List.getD_cons_zero, List.getD_cons_succ, World.size_alloc] at HS3_
          have HS3 := Lib.hid HS3_
          clear HS3_
          clear d2 d3 d4 d5 d6 d7
          have d2 := HS3.out.cell (i := 2) rfl 2 _ rfl; have d3 := HS3.out.cell (i := 2) rfl 3 _ rfl; have d4 := HS3.out.cell (i := 2) rfl 4 _ rfl; have d5 := HS3.out.cell (i := 2) rfl 5 _ rfl; have d6 := HS3.out.cell (i := 2) rfl 6 _ rfl; have d7 := HS3.out.cell (i := 2) rfl 7 _ rfl
          refine hK.out _ _ ?_ (fun hHeld => ?_)
          · exact ⟨d2, d3, d4, d5, d6, d7⟩
          clear hK K
          try simp only [Act.put, List.setIfInBounds_toArray, List.set_cons_zero, List.set_cons_succ, Nat.zero_add]
          refine wpHd_ready (rs := [16]) (by kernel_rfl) (by simp) ?_
          refine (RdyHd.cons (by simp only [List.getElem?_toArray, List.getElem?_cons_succ, List.getElem?_cons_zero] <;> rfl) (by decide) (fun K hK => ?_) RdyHd.nil)
          · go_simp
            go_at_call 41
            have ca := two_any (HS3.out.isX (i := 0) rfl HOX.out hdx hex) (HS3.out.isY (i := 0) rfl HOY.out hdy hey) mm nn HM.out HN.out
            try simp only [Ar.v] at ca
            rw [HvF.out, HvI.out, HvZ.out, HvJ.out, HvY.out, HvC.out, HvD.out, HvE.out] at ca
            refine ca.mono ?_
            rintro e w7 ⟨fo1, fn1, fc1, lo1, ln1, lc1, ro1, rn1, rc1, B1, D1, As1, Es1, rfl, h6, hA1, hE1, hB1, hT1, hD1, hU1⟩
            have HS4_ := HS3.out.add h6
            try simp only [List.cons_append, List.nil_append, List.set_cons_zero, List.set_cons_succ, List.map_cons, List.map_nil, List.getD_cons_zero, List.getD_cons_succ, World.size_alloc] at HS4_
            have HS4 := Lib.hid HS4_
            clear HS4_
            clear ca d2 d3 d4 d5 d6 d7
            have d2 := HS4.out.cell (i := 2) rfl 2 _ rfl; have d3 := HS4.out.cell (i := 2) rfl 3 _ rfl; have d4 := HS4.out.cell (i := 2) rfl 4 _ rfl; have d5 := HS4.out.cell (i := 2) rfl 5 _ rfl; have d6 := HS4.out.cell (i := 2) rfl 6 _ rfl; have d7 := HS4.out.cell (i := 2) rfl 7 _ rfl
            (try go_simp)
            (try simp only [Ar.v])
            refine hK.out _ _ ?_ (fun hHeld => ?_)
            · exact ⟨d2, d3, d4, d5, d6, d7⟩
            clear hK K
            try simp only [Act.put, List.setIfInBounds_toArray, List.set_cons_zero, List.set_cons_succ, Nat.zero_add]
            refine wpHd_take (i := 17) (v := ?_) (by kernel_rfl) (by simp only [List.getElem?_toArray, List.getElem?_cons_succ, List.getElem?_cons_zero] <;> rfl) (by kernel_rfl) (fun _ _ _ h => h) (Or.inl ⟨by rfl, ?_⟩) (by assumption) ?_
            rotate_left
            · (intro wS hSw; (try dsimp only at hSw); go_simp <;> with_reducible rfl)
            try simp only [Act.put, List.setIfInBounds_toArray, List.set_cons_zero, List.set_cons_succ, Nat.zero_add]
            refine wpHd_take (i := 18) (v := ?_) (by kernel_rfl) (by simp only [List.getElem?_toArray, List.getElem?_cons_succ, List.getElem?_cons_zero] <;> rfl) (by kernel_rfl) (fun _ _ _ h => h) (Or.inl ⟨by rfl, ?_⟩) (by assumption) ?_
            rotate_left
            · (intro wS hSw; (try dsimp only at hSw); go_simp <;> with_reducible rfl)
            try simp only [Act.put, List.setIfInBounds_toArray, List.set_cons_zero, List.set_cons_succ, Nat.zero_add]
            refine wpHd_take (i := 19) (v := ?_) (by kernel_rfl) (by simp only [List.getElem?_toArray, List.getElem?_cons_succ, List.getElem?_cons_zero] <;> rfl) (by kernel_rfl) (fun _ _ _ h => h) (Or.inl ⟨by rfl, ?_⟩) (by assumption) ?_
            rotate_left
            · (intro wS hSw; (try dsimp only at hSw); go_simp <;> with_reducible rfl)
            try simp only [Act.put, List.setIfInBounds_toArray, List.set_cons_zero, List.set_cons_succ, Nat.zero_add]
            refine wpHd_ready (rs := [21]) (by kernel_rfl) (by simp) ?_
            refine (RdyHd.cons (by simp only [List.getElem?_toArray, List.getElem?_cons_succ, List.getElem?_cons_zero] <;> rfl) (by decide) (fun K hK => ?_) RdyHd.nil)
            · have c0 := HS4.out.cell (i := 3) rfl 0 _ rfl; have f0 := HS4.out.frozen (i := 3) rfl 0; have c1 := HS4.out.cell (i := 3) rfl 1 _ rfl; have f1 := HS4.out.frozen (i := 3) rfl 1; have c2 := HS4.out.cell (i := 3) rfl 2 _ rfl; have f2 := HS4.out.frozen (i := 3) rfl 2; have c3 := HS4.out.cell (i := 3) rfl 3 _ rfl; have f3 := HS4.out.frozen (i := 3) rfl 3; have c4 := HS4.out.cell (i := 3) rfl 4 _ rfl; have f4 := HS4.out.frozen (i := 3) rfl 4; have c5 := HS4.out.cell (i := 3) rfl 5 _ rfl; have f5 := HS4.out.frozen (i := 3) rfl 5; have c6 := HS4.out.cell (i := 3) rfl 6 _ rfl; have f6 := HS4.out.frozen (i := 3) rfl 6
              go_simp
              have HS5_ := (((((((HS4.out.put (i := 3) rfl 0 (.slice fo1 fn1 fc1)).put (i := 3) rfl 1 (.slice lo1 ln1 lc1)).put (i := 3) rfl 2 (.slice ro1 rn1 rc1)).put (i := 3) rfl 3 (.slice B1.sa B1.sn B1.sc)).put (i := 3) rfl 4 (.slice B1.aa B1.an B1.ac)).put (i := 3) rfl 5 (.slice D1.sa D1.sn D1.sc)).put (i := 3) rfl 6 (.slice D1.aa D1.an D1.ac))
              try simp only [List.cons_append, List.nil_append, List.set_cons_zero, List.set_cons_succ, List.map_cons, List.map_nil, List.getD_cons_zero, List.getD_cons_succ, World.size_alloc] at HS5_
              have HS5 := Lib.hid HS5_
              clear HS5_
              clear c0 f0 c1 f1 c2 f2 c3 f3 c4 f4 c5 f5 c6 f6 d2 d3 d4 d5 d6 d7
              have d2 := HS5.out.cell (i := 2) rfl 2 _ rfl; have d3 := HS5.out.cell (i := 2) rfl 3 _ rfl; have d4 := HS5.out.cell (i := 2) rfl 4 _ rfl; have d5 := HS5.out.cell (i := 2) rfl 5 _ rfl; have d6 := HS5.out.cell (i := 2) rfl 6 _ rfl; have d7 := HS5.out.cell (i := 2) rfl 7 _ rfl
              refine hK.out _ _ ?_ (fun hHeld => ?_)
              · exact ⟨d2, d3, d4, d5, d6, d7⟩
              clear hK K
              try simp only [Act.put, List.setIfInBounds_toArray, List.set_cons_zero, List.set_cons_succ, Nat.zero_add]
              refine wpHd_done (by kernel_rfl) ?_
              simp only [List.drop_succ_cons, List.drop_zero]
              go_wp2_with fail
              refine NoPanic.normal ?_
              go_wp2_with fail
              go_meet
              exact ⟨w6.heap.size, gx, dx, kx, ex, gy, dy, ky, ey, fo1, fn1, fc1, lo1, ln1, lc1, ro1, rn1, rc1, B1, D1, As1, Es1, rfl, rfl, ⟨hA1, hE1, hB1, hT1, hD1, hU1⟩, HS5.out.pick [0, 1, 2, 4, 5, 6, 7, 8, 3] (by decide)⟩
      · go_simp
        have HS2_ := HS1.out.alloc 105 7 1 #[.slice none 0 0, .slice none 0 0, .slice none 0 0, .slice none 0 0, .slice none 0 0, .slice none 0 0, .slice none 0 0] rfl (by decide)
        try simp only [List.cons_append, List.nil_append, List.set_cons_zero, List.set_cons_succ, List.map_cons, List.map_nil, List.getD_cons_zero, List.getD_cons_succ, World.size_alloc] at HS2_
        have HS2 := Lib.hid HS2_
        clear HS2_
        clear d2 d3 d4 d5 d6 d7
        have d2 := HS2.out.cell (i := 2) rfl 2 _ rfl; have d3 := HS2.out.cell (i := 2) rfl 3 _ rfl; have d4 := HS2.out.cell (i := 2) rfl 4 _ rfl; have d5 := HS2.out.cell (i := 2) rfl 5 _ rfl; have d6 := HS2.out.cell (i := 2) rfl 6 _ rfl; have d7 := HS2.out.cell (i := 2) rfl 7 _ rfl
        refine hK.out _ _ ?_ (fun hHeld => ?_)
        · exact ⟨d2, d3, d4, d5, d6, d7⟩
        clear hK K
        try simp only [Act.put, List.setIfInBounds_toArray, List.set_cons_zero, List.set_cons_succ, Nat.zero_add]
        refine wpHd_ready (rs := [11]) (by kernel_rfl) (by simp) ?_
        refine (RdyHd.cons (by simp only [List.getElem?_toArray, List.getElem?_cons_succ, List.getElem?_cons_zero] <;> rfl) (by decide) (fun K hK => ?_) RdyHd.nil)
        · go_simp
          go_at_call 35
          have ca := HS2.out.arrayY (i := 0) rfl HOY.out
          simp only [Ar.v] at ca
          refine ca.mono ?_
          rintro e w6 ⟨gy, dy, ky, ey, rfl, hdy, hey, h5⟩
          simp only [List.set_cons_zero] at h5
          have HS3 := Lib.hid h5
          clear ca h5 d2 d3 d4 d5 d6 d7
          have d2 := HS3.out.cell (i := 2) rfl 2 _ rfl; have d3 := HS3.out.cell (i := 2) rfl 3 _ rfl; have d4 := HS3.out.cell (i := 2) rfl 4 _ rfl; have d5 := HS3.out.cell (i := 2) rfl 5 _ rfl; have d6 := HS3.out.cell (i := 2) rfl 6 _ rfl; have d7 := HS3.out.cell (i := 2) rfl 7 _ rfl
          (try go_simp)
          refine hK.out _ _ ?_ (fun hHeld => ?_)
          · exact ⟨d2, d3, d4, d5, d6, d7⟩
          clear hK K
          try simp only [Act.put, List.setIfInBounds_toArray, List.set_cons_zero, List.set_cons_succ, Nat.zero_add]
          refine wpHd_ready (rs := [16]) (by kernel_rfl) (by simp) ?_
          refine (RdyHd.cons (by simp only [List.getElem?_toArray, List.getElem?_cons_succ, List.getElem?_cons_zero] <;> rfl) (by decide) (fun K hK => ?_) RdyHd.nil)
          · go_simp
            go_at_call 41
            have ca := two_any (HS3.out.isX (i := 0) rfl HOX.out hdx hex) (HS3.out.isY (i := 0) rfl HOY.out hdy hey) mm nn HM.out HN.out
            try simp only [Ar.v] at ca
            rw [HvF.out, HvI.out, HvZ.out, HvJ.out, HvY.out, HvC.out, HvD.out, HvE.out] at ca
            refine ca.mono ?_
            rintro e w7 ⟨fo1, fn1, fc1, lo1, ln1, lc1, ro1, rn1, rc1, B1, D1, As1, Es1, rfl, h6, hA1, hE1, hB1, hT1, hD1, hU1⟩
            have HS4_ := HS3.out.add h6
            try simp only [List.cons_append, List.nil_append, List.set_cons_zero, List.set_cons_succ, List.map_cons, List.map_nil, List.getD_cons_zero, List.getD_cons_succ, World.size_alloc] at HS4_
            have HS4 := Lib.hid HS4_
            clear HS4_
            clear ca d2 d3 d4 d5 d6 d7
            have d2 := HS4.out.cell (i := 2) rfl 2 _ rfl; have d3 := HS4.out.cell (i := 2) rfl 3 _ rfl; have d4 := HS4.out.cell (i := 2) rfl 4 _ rfl; have d5 := HS4.out.cell (i := 2) rfl 5 _ rfl; have d6 := HS4.out.cell (i := 2) rfl 6 _ rfl; have d7 := HS4.out.cell (i := 2) rfl 7 _ rfl
            (try go_simp)
            (try simp only [Ar.v])
            refine hK.out _ _ ?_ (fun hHeld => ?_)
            · exact ⟨d2, d3, d4, d5, d6, d7⟩
            clear hK K
            try simp only [Act.put, List.setIfInBounds_toArray, List.set_cons_zero, List.set_cons_succ, Nat.zero_add]
            refine wpHd_take (i := 17) (v := ?_) (by kernel_rfl) (by simp only [List.getElem?_toArray, List.getElem?_cons_succ, List.getElem?_cons_zero] <;> rfl) (by kernel_rfl) (fun _ _ _ h => h) (Or.inl ⟨by rfl, ?_⟩) (by assumption) ?_
            rotate_left
            · (intro wS hSw; (try dsimp only at hSw); go_simp <;> with_reducible rfl)
            try simp only [Act.put, List.setIfInBounds_toArray, List.set_cons_zero, List.set_cons_succ, Nat.zero_add]
            refine wpHd_take (i := 18) (v := ?_) (by kernel_rfl) (by simp only [List.getElem?_toArray, List.getElem?_cons_succ, List.getElem?_cons_zero] <;> rfl) (by kernel_rfl) (fun _ _ _ h => h) (Or.inl ⟨by rfl, ?_⟩) (by assumption) ?_
            rotate_left
            · (intro wS hSw; (try dsimp only at hSw); go_simp <;> with_reducible rfl)
            try simp only [Act.put, List.setIfInBounds_toArray, List.set_cons_zero, List.set_cons_succ, Nat.zero_add]
            refine wpHd_take (i := 19) (v := ?_) (by kernel_rfl) (by simp only [List.getElem?_toArray, List.getElem?_cons_succ, List.getElem?_cons_zero] <;> rfl) (by kernel_rfl) (fun _ _ _ h => h) (Or.inl ⟨by rfl, ?_⟩) (by assumption) ?_
            rotate_left
            · (intro wS hSw; (try dsimp only at hSw); go_simp <;> with_reducible rfl)
            try simp only [Act.put, List.setIfInBounds_toArray, List.set_cons_zero, List.set_cons_succ, Nat.zero_add]
            refine wpHd_ready (rs := [21]) (by kernel_rfl) (by simp) ?_
            refine (RdyHd.cons (by simp only [List.getElem?_toArray, List.getElem?_cons_succ, List.getElem?_cons_zero] <;> rfl) (by decide) (fun K hK => ?_) RdyHd.nil)
            · have c0 := HS4.out.cell (i := 3) rfl 0 _ rfl; have f0 := HS4.out.frozen (i := 3) rfl 0; have c1 := HS4.out.cell (i := 3) rfl 1 _ rfl; have f1 := HS4.out.frozen (i := 3) rfl 1; have c2 := HS4.out.cell (i := 3) rfl 2 _ rfl; have f2 := HS4.out.frozen (i := 3) rfl 2; have c3 := HS4.out.cell (i := 3) rfl 3 _ rfl; have f3 := HS4.out.frozen (i := 3) rfl 3; have c4 := HS4.out.cell (i := 3) rfl 4 _ rfl; have f4 := HS4.out.frozen (i := 3) rfl 4; have c5 := HS4.out.cell (i := 3) rfl 5 _ rfl; have f5 := HS4.out.frozen (i := 3) rfl 5; have c6 := HS4.out.cell (i := 3) rfl 6 _ rfl; have f6 := HS4.out.frozen (i := 3) rfl 6
              go_simp
              have HS5_ := (((((((HS4.out.put (i := 3) rfl 0 (.slice fo1 fn1 fc1)).put (i := 3) rfl 1 (.slice lo1 ln1 lc1)).put (i := 3) rfl 2 (.slice ro1 rn1 rc1)).put (i := 3) rfl 3 (.slice B1.sa B1.sn B1.sc)).put (i := 3) rfl 4 (.slice B1.aa B1.an B1.ac)).put (i := 3) rfl 5 (.slice D1.sa D1.sn D1.sc)).put (i := 3) rfl 6 (.slice D1.aa D1.an D1.ac))
              try simp only [List.cons_append, List.nil_append, List.set_cons_zero, List.set_cons_succ, List.map_cons, List.map_nil, List.getD_cons_zero, List.getD_cons_succ, World.size_alloc] at HS5_
              have HS5 := Lib.hid HS5_
              clear HS5_
              clear c0 f0 c1 f1 c2 f2 c3 f3 c4 f4 c5 f5 c6 f6 d2 d3 d4 d5 d6 d7
              have d2 := HS5.out.cell (i := 2) rfl 2 _ rfl; have d3 := HS5.out.cell (i := 2) rfl 3 _ rfl; have d4 := HS5.out.cell (i := 2) rfl 4 _ rfl; have d5 := HS5.out.cell (i := 2) rfl 5 _ rfl; have d6 := HS5.out.cell (i := 2) rfl 6 _ rfl; have d7 := HS5.out.cell (i := 2) rfl 7 _ rfl
              refine hK.out _ _ ?_ (fun hHeld => ?_)
              · exact ⟨d2, d3, d4, d5, d6, d7⟩
              clear hK K
              try simp only [Act.put, List.setIfInBounds_toArray, List.set_cons_zero, List.set_cons_succ, Nat.zero_add]
              refine wpHd_done (by kernel_rfl) ?_
              simp only [List.drop_succ_cons, List.drop_zero]
              go_wp2_with fail
              refine NoPanic.normal ?_
              go_wp2_with fail
              go_meet
              exact ⟨w5.heap.size, gx, dx, kx, ex, gy, dy, ky, ey, fo1, fn1, fc1, lo1, ln1, lc1, ro1, rn1, rc1, B1, D1, As1, Es1, rfl, rfl, ⟨hA1, hE1, hB1, hT1, hD1, hU1⟩, HS5.out.pick [0, 1, 2, 4, 5, 6, 7, 8, 3] (by decide)⟩
    · go_simp
      have HS1_ := (HSA.out.alloc 105 7 1 #[.slice none 0 0, .slice none 0 0, .slice none 0 0, .slice none 0 0, .slice none 0 0, .slice none 0 0, .slice none 0 0] rfl (by decide)).via (adrew1 _)
      try simp only [List.cons_append, List.nil_append, List.set_cons_zero, List.set_cons_succ, List.map_cons, List.map_nil, List.getD_cons_zero, List.getD_cons_succ, World.size_alloc] at HS1_
      have HS1 := Lib.hid HS1_
      clear HS1_
      clear d2 d3 d4 d5 d6 d7
      have d2 := HS1.out.cell (i := 2) rfl 2 _ rfl; have d3 := HS1.out.cell (i := 2) rfl 3 _ rfl; have d4 := HS1.out.cell (i := 2) rfl 4 _ rfl; have d5 := HS1.out.cell (i := 2) rfl 5 _ rfl; have d6 := HS1.out.cell (i := 2) rfl 6 _ rfl; have d7 := HS1.out.cell (i := 2) rfl 7 _ rfl
      refine hK.out _ _ ?_ (fun hHeld => ?_)
      · exact ⟨d2, d3, d4, d5, d6, d7⟩
      clear hK K
      try simp only [Act.put, List.setIfInBounds_toArray, List.set_cons_zero, List.set_cons_succ, Nat.zero_add]
      refine wpHd_ready (rs := [5]) (by kernel_rfl) (by simp) ?_
      refine (RdyHd.cons (by simp only [List.getElem?_toArray, List.getElem?_cons_succ, List.getElem?_cons_zero] <;> rfl) (by decide) (fun K hK => ?_) RdyHd.nil)
      · go_simp
        go_at_call 35
        have ca := HS1.out.arrayX (i := 0) rfl HOX.out
        simp only [Ar.v] at ca
        refine ca.mono ?_
        rintro e w5 ⟨gx, dx, kx, ex, rfl, hdx, hex, h5⟩
        simp only [List.set_cons_zero] at h5
        have HS2 := Lib.hid h5
        clear ca h5 d2 d3 d4 d5 d6 d7
        have d2 := HS2.out.cell (i := 2) rfl 2 _ rfl; have d3 := HS2.out.cell (i := 2) rfl 3 _ rfl; have d4 := HS2.out.cell (i := 2) rfl 4 _ rfl; have d5 := HS2.out.cell (i := 2) rfl 5 _ rfl; have d6 := HS2.out.cell (i := 2) rfl 6 _ rfl; have d7 := HS2.out.cell (i := 2) rfl 7 _ rfl
        (try go_simp)
        refine hK.out _ _ ?_ (fun hHeld => ?_)
        · exact ⟨d2, d3, d4, d5, d6, d7⟩
        clear hK K
        try simp only [Act.put, List.setIfInBounds_toArray, List.set_cons_zero, List.set_cons_succ, Nat.zero_add]
        refine wpHd_ready (rs := [11]) (by kernel_rfl) (by simp) ?_
        refine (RdyHd.cons (by simp only [List.getElem?_toArray, List.getElem?_cons_succ, List.getElem?_cons_zero] <;> rfl) (by decide) (fun K hK => ?_) RdyHd.nil)
        · go_simp
          go_at_call 35
          have ca := HS2.out.arrayY (i := 0) rfl HOY.out
          simp only [Ar.v] at ca
          refine ca.mono ?_
          rintro e w6 ⟨gy, dy, ky, ey, rfl, hdy, hey, h5⟩
          simp only [List.set_cons_zero] at h5
          have HS3 := Lib.hid h5
          clear ca h5 d2 d3 d4 d5 d6 d7
          have d2 := HS3.out.cell (i := 2) rfl 2 _ rfl; have d3 := HS3.out.cell (i := 2) rfl 3 _ rfl; have d4 := HS3.out.cell (i := 2) rfl 4 _ rfl; have d5 := HS3.out.cell (i := 2) rfl 5 _ rfl; have d6 := HS3.out.cell (i := 2) rfl 6 _ rfl; have d7 := HS3.out.cell (i := 2) rfl 7 _ rfl
          (try go_simp)
          refine hK.out _ _ ?_ (fun hHeld => ?_)
          · exact ⟨d2, d3, d4, d5, d6, d7⟩
          clear hK K
          try simp only [Act.put, List.setIfInBounds_toArray, List.set_cons_zero, List.set_cons_succ, Nat.zero_add]
          refine wpHd_ready (rs := [16]) (by kernel_rfl) (by simp) ?_
          refine (RdyHd.cons (by simp only [List.getElem?_toArray, List.getElem?_cons_succ, List.getElem?_cons_zero] <;> rfl) (by decide) (fun K hK => ?_) RdyHd.nil)
          · go_simp
            go_at_call 41
            have ca := two_any (HS3.out.isX (i := 0) rfl HOX.out hdx hex) (HS3.out.isY (i := 0) rfl HOY.out hdy hey) mm nn HM.out HN.out
            try simp only [Ar.v] at ca
            rw [HvF.out, HvI.out, HvZ.out, HvJ.out, HvY.out, HvC.out, HvD.out, HvE.out] at ca
            refine ca.mono ?_
            rintro e w7 ⟨fo1, fn1, fc1, lo1, ln1, lc1, ro1, rn1, rc1, B1, D1, As1, Es1, rfl, h6, hA1, hE1, hB1, hT1, hD1, hU1⟩
            have HS4_ := HS3.out.add h6
            try simp only [List.cons_append, List.nil_append, List.set_cons_zero, List.set_cons_succ, List.map_cons, List.map_nil, List.getD_cons_zero, List.getD_cons_succ, World.size_alloc] at HS4_
            have HS4 := Lib.hid HS4_
            clear HS4_
            clear ca d2 d3 d4 d5 d6 d7
            have d2 := HS4.out.cell (i := 2) rfl 2 _ rfl; have d3 := HS4.out.cell (i := 2) rfl 3 _ rfl; have d4 := HS4.out.cell (i := 2) rfl 4 _ rfl; have d5 := HS4.out.cell (i := 2) rfl 5 _ rfl; have d6 := HS4.out.cell (i := 2) rfl 6 _ rfl; have d7 := HS4.out.cell (i := 2) rfl 7 _ rfl
            (try go_simp)
            (try simp only [Ar.v])
            refine hK.out _ _ ?_ (fun hHeld => ?_)
            · exact ⟨d2, d3, d4, d5, d6, d7⟩
            clear hK K
            try simp only [Act.put, List.setIfInBounds_toArray, List.set_cons_zero, List.set_cons_succ, Nat.zero_add]
            refine wpHd_take (i := 17) (v := ?_) (by kernel_rfl) (by simp only [List.getElem?_toArray, List.getElem?_cons_succ, List.getElem?_cons_zero] <;> rfl) (by kernel_rfl) (fun _ _ _ h => h) (Or.inl ⟨by rfl, ?_⟩) (by assumption) ?_
            rotate_left
            · (intro wS hSw; (try dsimp only at hSw); go_simp <;> with_reducible rfl)
            try simp only [Act.put, List.setIfInBounds_toArray, List.set_cons_zero, List.set_cons_succ, Nat.zero_add]
            refine wpHd_take (i := 18) (v := ?_) (by kernel_rfl) (by simp only [List.getElem?_toArray, List.getElem?_cons_succ, List.getElem?_cons_zero] <;> rfl) (by kernel_rfl) (fun _ _ _ h => h) (Or.inl ⟨by rfl, ?_⟩) (by assumption) ?_
            rotate_left
            · (intro wS hSw; (try dsimp only at hSw); go_simp <;> with_reducible rfl)
            try simp only [Act.put, List.setIfInBounds_toArray, List.set_cons_zero, List.set_cons_succ, Nat.zero_add]
            refine wpHd_take (i := 19) (v := ?_) (by kernel_rfl) (by simp only [List.getElem?_toArray, List.getElem?_cons_succ, List.getElem?_cons_zero] <;> rfl) (by kernel_rfl) (fun _ _ _ h => h) (Or.inl ⟨by rfl, ?_⟩) (by assumption) ?_
            rotate_left
            · (intro wS hSw; (try dsimp only at hSw); go_simp <;> with_reducible rfl)
            try simp only [Act.put, List.setIfInBounds_toArray, List.set_cons_zero, List.set_cons_succ, Nat.zero_add]
            refine wpHd_ready (rs := [21]) (by kernel_rfl) (by simp) ?_
            refine (RdyHd.cons (by simp only [List.getElem?_toArray, List.getElem?_cons_succ, List.getElem?_cons_zero] <;> rfl) (by decide) (fun K hK => ?_) RdyHd.nil)
            · have c0 := HS4.out.cell (i := 3) rfl 0 _ rfl; have f0 := HS4.out.frozen (i := 3) rfl 0; have c1 := HS4.out.cell (i := 3) rfl 1 _ rfl; have f1 := HS4.out.frozen (i := 3) rfl 1; have c2 := HS4.out.cell (i := 3) rfl 2 _ rfl; have f2 := HS4.out.frozen (i := 3) rfl 2; have c3 := HS4.out.cell (i := 3) rfl 3 _ rfl; have f3 := HS4.out.frozen (i := 3) rfl 3; have c4 := HS4.out.cell (i := 3) rfl 4 _ rfl; have f4 := HS4.out.frozen (i := 3) rfl 4; have c5 := HS4.out.cell (i := 3) rfl 5 _ rfl; have f5 := HS4.out.frozen (i := 3) rfl 5; have c6 := HS4.out.cell (i := 3) rfl 6 _ rfl; have f6 := HS4.out.frozen (i := 3) rfl 6
              go_simp
              have HS5_ := (((((((HS4.out.put (i := 3) rfl 0 (.slice fo1 fn1 fc1)).put (i := 3) rfl 1 (.slice lo1 ln1 lc1)).put (i := 3) rfl 2 (.slice ro1 rn1 rc1)).put (i := 3) rfl 3 (.slice B1.sa B1.sn B1.sc)).put (i := 3) rfl 4 (.slice B1.aa B1.an B1.ac)).put (i := 3) rfl 5 (.slice D1.sa D1.sn D1.sc)).put (i := 3) rfl 6 (.slice D1.aa D1.an D1.ac))
              try simp only [List.cons_append, List.nil_append, List.set_cons_zero, List.set_cons_succ, List.map_cons, List.map_nil, List.getD_cons_zero, List.getD_cons_succ, World.size_alloc] at HS5_
              have HS5 := Lib.hid HS5_
              clear HS5_
              clear c0 f0 c1 f1 c2 f2 c3 f3 c4 f4 c5 f5 c6 f6 d2 d3 d4 d5 d6 d7
              have d2 := HS5.out.cell (i := 2) rfl 2 _ rfl; have d3 := HS5.out.cell (i := 2) rfl 3 _ rfl; have d4 := HS5.out.cell (i := 2) rfl 4 _ rfl; have d5 := HS5.out.cell (i := 2) rfl 5 _ rfl; have d6 := HS5.out.cell (i := 2) rfl 6 _ rfl; have d7 := HS5.out.cell (i := 2) rfl 7 _ rfl
              refine hK.out _ _ ?_ (fun hHeld => ?_)
              · exact ⟨d2, d3, d4, d5, d6, d7⟩
              clear hK K
              try simp only [Act.put, List.setIfInBounds_toArray, List.set_cons_zero, List.set_cons_succ, Nat.zero_add]
              refine wpHd_done (by kernel_rfl) ?_
              simp only [List.drop_succ_cons, List.drop_zero]
              go_wp2_with fail
              refine NoPanic.normal ?_
              go_wp2_with fail
              go_meet
              exact ⟨w3.heap.size, gx, dx, kx, ex, gy, dy, ky, ey, fo1, fn1, fc1, lo1, ln1, lc1, ro1, rn1, rc1, B1, D1, As1, Es1, rfl, rfl, ⟨hA1, hE1, hB1, hT1, hD1, hU1⟩, HS5.out.pick [0, 1, 2, 4, 5, 6, 7, 8, 3] (by decide)⟩
  case rest =>
    obtain ⟨gb, gx, dx, kx, ex, gy, dy, ky, ey, fo1, fn1, fc1, lo1, ln1, lc1, ro1, rn1, rc1, B1, D1, As1, Es1, rfl, rfl, HF1, HQ0⟩ := hcut
    obtain ⟨w10, hU⟩ : ∃ z : World, z = wc := ⟨_, rfl⟩
    subst hU
    clear d2 d3 d4 d5 d6 d7 HSA HS0 H1
    go_upto_region 9 with fail
    have HK0_ := HQ0.out.via (adrew1 w10)
    try simp only [List.cons_append, List.nil_append, List.set_cons_zero, List.set_cons_succ, List.map_cons, List.map_nil, List.getD_cons_zero, List.getD_cons_succ, World.size_alloc] at HK0_
    have HK0 := Lib.hid HK0_
    clear HK0_
    have d2 := HK0.out.cell (i := 2) rfl 2 _ rfl; have d3 := HK0.out.cell (i := 2) rfl 3 _ rfl
    refine wp_region_noPanic ?_
    refine wp_region_hd (S := (fun wS => wS.cell? ⟨b, 2, none⟩ = some (.slice x1 x2 x3) ∧ wS.cell? ⟨b, 3, none⟩ = some (.slice x4 x5 x6))) 6 (by kernel_rfl) (by kernel_rfl) ?_ (fun hHeld => ?_)
    · exact ⟨d2, d3⟩
    refine wpHd_take (i := 0) (v := ?_) (by kernel_rfl) (by simp only [List.getElem?_toArray, List.getElem?_cons_succ, List.getElem?_cons_zero] <;> rfl) (by kernel_rfl) (fun _ _ _ h => h) (Or.inl ⟨by rfl, ?_⟩) (by assumption) ?_
    rotate_left
    · (intro wS hSw; (try dsimp only at hSw); go_simp <;> with_reducible rfl)
    try simp only [Act.put, List.setIfInBounds_toArray, List.set_cons_zero, List.set_cons_succ, Nat.zero_add]
    refine wpHd_take (i := 1) (v := ?_) (by kernel_rfl) (by simp only [List.getElem?_toArray, List.getElem?_cons_succ, List.getElem?_cons_zero] <;> rfl) (by kernel_rfl) (fun _ _ _ h => h) (Or.inl ⟨by rfl, ?_⟩) (by assumption) ?_
    rotate_left
    · (intro wS hSw; (try dsimp only at hSw); go_simp <;> with_reducible rfl)
    try simp only [Act.put, List.setIfInBounds_toArray, List.set_cons_zero, List.set_cons_succ, Nat.zero_add]
    refine wpHd_take (i := 2) (v := ?_) (by kernel_rfl) (by simp only [List.getElem?_toArray, List.getElem?_cons_succ, List.getElem?_cons_zero] <;> rfl) (by kernel_rfl) (fun _ _ _ h => h) (Or.inl ⟨by rfl, ?_⟩) (by assumption) ?_
    rotate_left
    · (intro wS hSw; (try dsimp only at hSw); go_simp <;> with_reducible rfl)
    try simp only [Act.put, List.setIfInBounds_toArray, List.set_cons_zero, List.set_cons_succ, Nat.zero_add]
    refine wpHd_take (i := 3) (v := ?_) (by kernel_rfl) (by simp only [List.getElem?_toArray, List.getElem?_cons_succ, List.getElem?_cons_zero] <;> rfl) (by kernel_rfl) (fun _ _ _ h => h) (Or.inl ⟨by rfl, ?_⟩) (by assumption) ?_
    rotate_left
    · (intro wS hSw; (try dsimp only at hSw); go_simp <;> with_reducible rfl)
    try simp only [Act.put, List.setIfInBounds_toArray, List.set_cons_zero, List.set_cons_succ, Nat.zero_add]
    refine wpHd_take (i := 4) (v := ?_) (by kernel_rfl) (by simp only [List.getElem?_toArray, List.getElem?_cons_succ, List.getElem?_cons_zero] <;> rfl) (by kernel_rfl) (fun _ _ _ h => h) (Or.inl ⟨by rfl, ?_⟩) (by assumption) ?_
    rotate_left
    · (intro wS hSw; (try dsimp only at hSw); go_simp <;> with_reducible rfl)
    try simp only [Act.put, List.setIfInBounds_toArray, List.set_cons_zero, List.set_cons_succ, Nat.zero_add]
    refine wpHd_ready (rs := [5]) (by kernel_rfl) (by simp) ?_
    refine (RdyHd.cons (by simp only [List.getElem?_toArray, List.getElem?_cons_succ, List.getElem?_cons_zero] <;> rfl) (by decide) (fun K hK => ?_) RdyHd.nil)
    · go_simp
      go_at_call 36
      have ca := HK0.out.keptX (i := 0) rfl HOX.out
      simp only [Ar.v] at ca
      refine ca.mono ?_
      rintro e w11 ⟨rfl, h5⟩
      have HQ1_ := h5
      try simp only [List.cons_append, List.nil_append, List.set_cons_zero, List.set_cons_succ, List.map_cons, List.map_nil, List.getD_cons_zero, List.getD_cons_succ, World.size_alloc] at HQ1_
      have HQ1 := Lib.hid HQ1_
      clear HQ1_
      clear ca h5 d2 d3
      have d2 := HQ1.out.cell (i := 2) rfl 2 _ rfl; have d3 := HQ1.out.cell (i := 2) rfl 3 _ rfl
      (try go_simp)
      refine hK.out _ _ ?_ (fun hHeld => ?_)
      · exact ⟨d2, d3⟩
      clear hK K
      try simp only [Act.put, List.setIfInBounds_toArray, List.set_cons_zero, List.set_cons_succ, Nat.zero_add]
      refine wpHd_done (by kernel_rfl) ?_
      simp only [List.drop_succ_cons, List.drop_zero]
      go_wp2_with fail
      refine NoPanic.normal ?_
      clear d2 d3 HK0
      go_wp2_with fail
      go_upto_region 10 with fail
      have HK1_ := HQ1.out.via (adrew1 w11)
      try simp only [List.cons_append, List.nil_append, List.set_cons_zero, List.set_cons_succ, List.map_cons, List.map_nil, List.getD_cons_zero, List.getD_cons_succ, World.size_alloc] at HK1_
      have HK1 := Lib.hid HK1_
      clear HK1_
      have d4 := HK1.out.cell (i := 2) rfl 4 _ rfl; have d5 := HK1.out.cell (i := 2) rfl 5 _ rfl
      refine wp_region_noPanic ?_
      refine wp_region_hd (S := (fun wS => wS.cell? ⟨b, 4, none⟩ = some (.slice y1 y2 y3) ∧ wS.cell? ⟨b, 5, none⟩ = some (.slice y4 y5 y6))) 6 (by kernel_rfl) (by kernel_rfl) ?_ (fun hHeld => ?_)
      · exact ⟨d4, d5⟩
      refine wpHd_take (i := 0) (v := ?_) (by kernel_rfl) (by simp only [List.getElem?_toArray, List.getElem?_cons_succ, List.getElem?_cons_zero] <;> rfl) (by kernel_rfl) (fun _ _ _ h => h) (Or.inl ⟨by rfl, ?_⟩) (by assumption) ?_
      rotate_left
      · (intro wS hSw; (try dsimp only at hSw); go_simp <;> with_reducible rfl)
      try simp only [Act.put, List.setIfInBounds_toArray, List.set_cons_zero, List.set_cons_succ, Nat.zero_add]
      refine wpHd_take (i := 1) (v := ?_) (by kernel_rfl) (by simp only [List.getElem?_toArray, List.getElem?_cons_succ, List.getElem?_cons_zero] <;> rfl) (by kernel_rfl) (fun _ _ _ h => h) (Or.inl ⟨by rfl, ?_⟩) (by assumption) ?_
      rotate_left
      · (intro wS hSw; (try dsimp only at hSw); go_simp <;> with_reducible rfl)
      try simp only [Act.put, List.setIfInBounds_toArray, List.set_cons_zero, List.set_cons_succ, Nat.zero_add]
      refine wpHd_take (i := 2) (v := ?_) (by kernel_rfl) (by simp only [List.getElem?_toArray, List.getElem?_cons_succ, List.getElem?_cons_zero] <;> rfl) (by kernel_rfl) (fun _ _ _ h => h) (Or.inl ⟨by rfl, ?_⟩) (by assumption) ?_
      rotate_left
      · (intro wS hSw; (try dsimp only at hSw); go_simp <;> with_reducible rfl)
      try simp only [Act.put, List.setIfInBounds_toArray, List.set_cons_zero, List.set_cons_succ, Nat.zero_add]
      refine wpHd_take (i := 3) (v := ?_) (by kernel_rfl) (by simp only [List.getElem?_toArray, List.getElem?_cons_succ, List.getElem?_cons_zero] <;> rfl) (by kernel_rfl) (fun _ _ _ h => h) (Or.inl ⟨by rfl, ?_⟩) (by assumption) ?_
      rotate_left
      · (intro wS hSw; (try dsimp only at hSw); go_simp <;> with_reducible rfl)
      try simp only [Act.put, List.setIfInBounds_toArray, List.set_cons_zero, List.set_cons_succ, Nat.zero_add]
      refine wpHd_take (i := 4) (v := ?_) (by kernel_rfl) (by simp only [List.getElem?_toArray, List.getElem?_cons_succ, List.getElem?_cons_zero] <;> rfl) (by kernel_rfl) (fun _ _ _ h => h) (Or.inl ⟨by rfl, ?_⟩) (by assumption) ?_
      rotate_left
      · (intro wS hSw; (try dsimp only at hSw); go_simp <;> with_reducible rfl)
      try simp only [Act.put, List.setIfInBounds_toArray, List.set_cons_zero, List.set_cons_succ, Nat.zero_add]
      refine wpHd_ready (rs := [5]) (by kernel_rfl) (by simp) ?_
      refine (RdyHd.cons (by simp only [List.getElem?_toArray, List.getElem?_cons_succ, List.getElem?_cons_zero] <;> rfl) (by decide) (fun K hK => ?_) RdyHd.nil)
      · go_simp
        go_at_call 36
        have ca := HK1.out.keptY (i := 0) rfl HOY.out
        simp only [Ar.v] at ca
        refine ca.mono ?_
        rintro e w12 ⟨rfl, h5⟩
        have HQ2_ := h5
        try simp only [List.cons_append, List.nil_append, List.set_cons_zero, List.set_cons_succ, List.map_cons, List.map_nil, List.getD_cons_zero, List.getD_cons_succ, World.size_alloc] at HQ2_
        have HQ2 := Lib.hid HQ2_
        clear HQ2_
        clear ca h5 d4 d5
        have d4 := HQ2.out.cell (i := 2) rfl 4 _ rfl; have d5 := HQ2.out.cell (i := 2) rfl 5 _ rfl
        (try go_simp)
        refine hK.out _ _ ?_ (fun hHeld => ?_)
        · exact ⟨d4, d5⟩
        clear hK K
        try simp only [Act.put, List.setIfInBounds_toArray, List.set_cons_zero, List.set_cons_succ, Nat.zero_add]
        refine wpHd_done (by kernel_rfl) ?_
        simp only [List.drop_succ_cons, List.drop_zero]
        go_wp2_with fail
        refine NoPanic.normal ?_
        clear d4 d5 HK1
        skip
        have d2 := HQ2.out.cell (i := 2) rfl 2 _ rfl; have d3 := HQ2.out.cell (i := 2) rfl 3 _ rfl; have d4 := HQ2.out.cell (i := 2) rfl 4 _ rfl; have d5 := HQ2.out.cell (i := 2) rfl 5 _ rfl; have d6 := HQ2.out.cell (i := 2) rfl 6 _ rfl; have d7 := HQ2.out.cell (i := 2) rfl 7 _ rfl
        have cr := rtwo_any (HOX.out.below HQ2.out.belowN (Nat.le_refl _)) (HOY.out.below HQ2.out.belowN (Nat.le_refl _)) mm nn HM.out HN.out
        try simp only [Ar.v] at cr
        rw [HvF.out, HvI.out, HvZ.out, HvJ.out, HvY.out, HvC.out, HvD.out, HvE.out] at cr
        have CR := Lib.hid cr
        clear cr
        go_wp2_with fail
        refine CR.out.mono ?_; rintro e w20 ⟨fo2, fn2, fc2, lo2, ln2, lc2, ro2, rn2, rc2, B2, D2, As2, Es2, rfl, h6, hA2, hE2, hB2, hT2, hD2, hU2⟩
        obtain ⟨WE, HWE⟩ : ∃ z, Hid (w20.alloc (.cells #[.slice fo2 fn2 fc2, .slice lo2 ln2 lc2, .slice ro2 rn2 rc2, .slice B2.sa B2.sn B2.sc, .slice B2.aa B2.an B2.ac, .slice D2.sa D2.sn D2.sc, .slice D2.aa D2.an D2.ac] 105) = z) := ⟨_, rfl⟩
        have h7 := (HQ2.out.add h6).alloc 105 7 1 #[.slice fo2 fn2 fc2, .slice lo2 ln2 lc2, .slice ro2 rn2 rc2, .slice B2.sa B2.sn B2.sc, .slice B2.aa B2.an B2.ac, .slice D2.sa D2.sn D2.sc, .slice D2.aa D2.an D2.ac] rfl (by decide)
        obtain ⟨b2, HB2⟩ : ∃ z, Hid (w20.heap.size = z) := ⟨_, rfl⟩
        rw [HWE.out, HB2.out] at h7
        have HE_ := h7
        try simp only [List.cons_append, List.nil_append, List.set_cons_zero, List.set_cons_succ, List.map_cons, List.map_nil, List.getD_cons_zero, List.getD_cons_succ, World.size_alloc] at HE_
        have HE := Lib.hid HE_
        clear HE_
        clear h7 CR d2 d3 d4 d5 d6 d7
        have HF2 : Hid (As2.map Ar.sa2 = vC ∧ Es2.map Ar.sa2 = vD ∧ B2.s = vI ∧ B2.a = vZ ∧ D2.s = vJ ∧ D2.a = vY) := ⟨hA2, hE2, hB2, hT2, hD2, hU2⟩
        try simp only [Ar.v]
        go_upto_region 12 with fail
        rw [HWE.out, HB2.out]
        have p0 := HE.out.cell (i := 8) rfl 0 _ rfl
        have q0 := HE.out.cell (i := 14) rfl 0 _ rfl
        have p1 := HE.out.cell (i := 8) rfl 1 _ rfl
        have q1 := HE.out.cell (i := 14) rfl 1 _ rfl
        have p2 := HE.out.cell (i := 8) rfl 2 _ rfl
        have q2 := HE.out.cell (i := 14) rfl 2 _ rfl
        have p3 := HE.out.cell (i := 8) rfl 3 _ rfl
        have q3 := HE.out.cell (i := 14) rfl 3 _ rfl
        have p4 := HE.out.cell (i := 8) rfl 4 _ rfl
        have q4 := HE.out.cell (i := 14) rfl 4 _ rfl
        have p5 := HE.out.cell (i := 8) rfl 5 _ rfl
        have q5 := HE.out.cell (i := 14) rfl 5 _ rfl
        have p6 := HE.out.cell (i := 8) rfl 6 _ rfl
        have q6 := HE.out.cell (i := 14) rfl 6 _ rfl
        have ce := eqpairs_true (HE.out.ls (i := 3) rfl) (HE.out.ls (i := 9) rfl) (HE.out.ars (i := 4) rfl) (HE.out.ars (i := 10) rfl) (HF1.out.1.trans HF2.out.1.symm) (HE.out.ars (i := 5) rfl) (HE.out.ars (i := 11) rfl) (HF1.out.2.1.trans HF2.out.2.1.symm) (HE.out.isA (i := 6) rfl) (HE.out.isA (i := 12) rfl) ⟨HF1.out.2.2.1.trans HF2.out.2.2.1.symm, HF1.out.2.2.2.1.trans HF2.out.2.2.2.1.symm⟩ (HE.out.isA (i := 7) rfl) (HE.out.isA (i := 13) rfl) ⟨HF1.out.2.2.2.2.1.trans HF2.out.2.2.2.2.1.symm, HF1.out.2.2.2.2.2.trans HF2.out.2.2.2.2.2.symm⟩
        have CE0 := Lib.hid ce
        clear ce
        go_wp2_with fail
        refine CE0.out.mono ?_; rintro e w30 ⟨rfl, hb9⟩
        have HE0_ := HE.out.via hb9
        try simp only [List.cons_append, List.nil_append, List.set_cons_zero, List.set_cons_succ, List.map_cons, List.map_nil, List.getD_cons_zero, List.getD_cons_succ, World.size_alloc] at HE0_
        have HE0 := Lib.hid HE0_
        clear HE0_
        clear hb9 p0 q0 p1 q1 p2 q2 p3 q3 p4 q4 p5 q5 p6 q6
        have HF : Hid (PlaysP w0 hb G (.returned (.bool true)) w30) := ⟨rfl, HE0.out.pick [0, 1] (by decide)⟩
        go_wp2
        exact bodyPost_ret (v := .bool true) (by simp [results, Try.results9, go_sem, *]) rfl HF.out
set_option maxRecDepth 100000 in
set_option maxHeartbeats 6400000 in
theorem cplays_3 {w0 w : World} {hb : Nat} {G : Pt} (H : Sp Non w0 w [Pt.hands hb none none none none, G]) {o : OpC} (hO : o.Is w0) (hk : o.k = 3) : Calls Try.prog 9 #[.pointer (some ⟨hb, 0, none⟩), o.v] w (PlaysP w0 hb G) := by
  obtain ⟨kk, on, ⟨x1, x2, x3, x4, x5, x6, xs, xt⟩, ⟨y1, y2, y3, y4, y5, y6, ys, yt⟩, mm, nn, ll, po, pn, pc, pf, qo, qn, qc, qs, tl⟩ := o
  obtain ⟨hX, hY, hF, hL, hM, hN, hLL, hBG⟩ := hO
  simp only at hk hX hY hF hL hM hN hLL hBG
  subst hk
  have HOX := Lib.hid hX
  have HOY := Lib.hid hY
  have HOF := Lib.hid hF
  have HOL := Lib.hid hL
  have HM := Lib.hid hM
  have HN := Lib.hid hN
  have HLL := Lib.hid hLL
  have HBG := Lib.hid hBG
  simp only [OpC.v]
  obtain ⟨b, HB⟩ : ∃ z, Hid (w.heap.size = z) := ⟨_, rfl⟩
  obtain ⟨W, HW⟩ : ∃ z, Hid (w.alloc (.cells #[.int .i64 3, .int .i64 on, .slice x1 x2 x3, .slice x4 x5 x6, .slice y1 y2 y3, .slice y4 y5 y6, .int .i64 mm, .int .i64 nn, .int .i64 ll, .slice po pn pc, .slice qo qn qc, .bool tl] 47) = z) := ⟨_, rfl⟩
  have h1 := H.alloc 47 12 1 #[.int .i64 3, .int .i64 on, .slice x1 x2 x3, .slice x4 x5 x6, .slice y1 y2 y3, .slice y4 y5 y6, .int .i64 mm, .int .i64 nn, .int .i64 ll, .slice po pn pc, .slice qo qn qc, .bool tl] rfl (by decide)
  rw [HW.out, HB.out] at h1
  have H1_ := h1
  try simp only [List.cons_append, List.nil_append, List.set_cons_zero, List.set_cons_succ, List.map_cons, List.map_nil, List.getD_cons_zero, List.getD_cons_succ, World.size_alloc] at H1_
  have H1 := Lib.hid H1_
  clear H1_
  clear h1 H hX hY hF hL hM hN hLL hBG
  obtain ⟨vS, HvS⟩ : ∃ z, Hid (ptS ys yt mm nn = z) := ⟨_, rfl⟩
  obtain ⟨vA, HvA⟩ : ∃ z, Hid (ptA ys yt mm nn = z) := ⟨_, rfl⟩
  obtain ⟨vE, HvE⟩ : ∃ z, Hid (ptE ys yt mm nn = z) := ⟨_, rfl⟩
  have x0 := H1.out.cell (i := 2) rfl 0 _ rfl
  go_enter Try.func9, Try.ntmps9
  go_upto_region 1 with fail
  rw [HW.out, HB.out]
  go_upto_region 14 with fail
  obtain ⟨w3, Hw3⟩ : ∃ z, Hid (W = z) := ⟨_, rfl⟩
  rw [Hw3.out] at H1 ⊢
  have HSA := H1
  clear x0
  have HS0_ := HSA.out.via (adrew1 w3)
  try simp only [List.cons_append, List.nil_append, List.set_cons_zero, List.set_cons_succ, List.map_cons, List.map_nil, List.getD_cons_zero, List.getD_cons_succ, World.size_alloc] at HS0_
  have HS0 := Lib.hid HS0_
  clear HS0_
  have d4 := HS0.out.cell (i := 2) rfl 4 _ rfl; have d5 := HS0.out.cell (i := 2) rfl 5 _ rfl; have d6 := HS0.out.cell (i := 2) rfl 6 _ rfl; have d7 := HS0.out.cell (i := 2) rfl 7 _ rfl
  go_cut [16, 17] from 143 to 156 (fun (v16 v17 : Value) (wx : World) => ∃ (gb : Nat) (gy dy ky ey : Nat) (B1 : Ar), v16 = .pointer (some ⟨gb, 0, none⟩) ∧ v17 = .int .i64 vE ∧ Hid (B1.s = vS ∧ B1.a = vA) ∧ Hid (Sp Non w0 wx [Pt.hands hb none (some (laid4 ys yt gy dy ky ey)) none none, G, Pt.row ⟨47, 12, some ⟨b, 0, none⟩, 1, 1, [.int .i64 3, .int .i64 on, .slice x1 x2 x3, .slice x4 x5 x6, .slice y1 y2 y3, .slice y4 y5 y6, .int .i64 mm, .int .i64 nn, .int .i64 ll, .slice po pn pc, .slice qo qn qc, .bool tl]⟩, Pt.arr B1, Pt.row ⟨45, 2, some ⟨gb, 0, none⟩, 1, 1, [.slice B1.sa B1.sn B1.sc, .slice B1.aa B1.an B1.ac]⟩]))
  case first =>
    go_upto_region 14 with fail
    refine wp_region_noPanic ?_
    refine wp_region_hd (S := (fun wS => wS.cell? ⟨b, 4, none⟩ = some (.slice y1 y2 y3) ∧ wS.cell? ⟨b, 5, none⟩ = some (.slice y4 y5 y6) ∧ wS.cell? ⟨b, 6, none⟩ = some (.int .i64 mm) ∧ wS.cell? ⟨b, 7, none⟩ = some (.int .i64 nn))) 16 (by kernel_rfl) (by kernel_rfl) ?_ (fun hHeld => ?_)
    · exact ⟨d4, d5, d6, d7⟩
    refine wpHd_take (i := 0) (v := ?_) (by kernel_rfl) (by simp only [List.getElem?_toArray, List.getElem?_cons_succ, List.getElem?_cons_zero] <;> rfl) (by kernel_rfl) (fun _ _ _ h => h) (Or.inl ⟨by rfl, ?_⟩) (by assumption) ?_
    rotate_left
    · (intro wS hSw; (try dsimp only at hSw); go_simp <;> with_reducible rfl)
    try simp only [Act.put, List.setIfInBounds_toArray, List.set_cons_zero, List.set_cons_succ, Nat.zero_add]
    refine wpHd_take (i := 1) (v := ?_) (by kernel_rfl) (by simp only [List.getElem?_toArray, List.getElem?_cons_succ, List.getElem?_cons_zero] <;> rfl) (by kernel_rfl) (fun _ _ _ h => h) (Or.inl ⟨by rfl, ?_⟩) (by assumption) ?_
    rotate_left
    · (intro wS hSw; (try dsimp only at hSw); go_simp <;> with_reducible rfl)
    try simp only [Act.put, List.setIfInBounds_toArray, List.set_cons_zero, List.set_cons_succ, Nat.zero_add]
    refine wpHd_take (i := 2) (v := ?_) (by kernel_rfl) (by simp only [List.getElem?_toArray, List.getElem?_cons_succ, List.getElem?_cons_zero] <;> rfl) (by kernel_rfl) (fun _ _ _ h => h) (Or.inl ⟨by rfl, ?_⟩) (by assumption) ?_
    rotate_left
    · (intro wS hSw; (try dsimp only at hSw); go_simp <;> with_reducible rfl)
    try simp only [Act.put, List.setIfInBounds_toArray, List.set_cons_zero, List.set_cons_succ, Nat.zero_add]
    refine wpHd_take (i := 3) (v := ?_) (by kernel_rfl) (by simp only [List.getElem?_toArray, List.getElem?_cons_succ, List.getElem?_cons_zero] <;> rfl) (by kernel_rfl) (fun _ _ _ h => h) (Or.inl ⟨by rfl, ?_⟩) (by assumption) ?_
    rotate_left
    · (intro wS hSw; (try dsimp only at hSw); go_simp <;> with_reducible rfl)
    try simp only [Act.put, List.setIfInBounds_toArray, List.set_cons_zero, List.set_cons_succ, Nat.zero_add]
    refine wpHd_take (i := 4) (v := ?_) (by kernel_rfl) (by simp only [List.getElem?_toArray, List.getElem?_cons_succ, List.getElem?_cons_zero] <;> rfl) (by kernel_rfl) (fun _ _ _ h => h) (Or.inl ⟨by rfl, ?_⟩) (by assumption) ?_
    rotate_left
    · (intro wS hSw; (try dsimp only at hSw); go_simp <;> with_reducible rfl)
    try simp only [Act.put, List.setIfInBounds_toArray, List.set_cons_zero, List.set_cons_succ, Nat.zero_add]
    refine wpHd_take (i := 6) (v := ?_) (by kernel_rfl) (by simp only [List.getElem?_toArray, List.getElem?_cons_succ, List.getElem?_cons_zero] <;> rfl) (by kernel_rfl) (fun _ _ _ h => h) (Or.inl ⟨by rfl, ?_⟩) (by assumption) ?_
    rotate_left
    · (intro wS hSw; (try dsimp only at hSw); go_simp <;> with_reducible rfl)
    try simp only [Act.put, List.setIfInBounds_toArray, List.set_cons_zero, List.set_cons_succ, Nat.zero_add]
    refine wpHd_take (i := 7) (v := ?_) (by kernel_rfl) (by simp only [List.getElem?_toArray, List.getElem?_cons_succ, List.getElem?_cons_zero] <;> rfl) (by kernel_rfl) (fun _ _ _ h => h) (Or.inl ⟨by rfl, ?_⟩) (by assumption) ?_
    rotate_left
    · (intro wS hSw; (try dsimp only at hSw); go_simp <;> with_reducible rfl)
    try simp only [Act.put, List.setIfInBounds_toArray, List.set_cons_zero, List.set_cons_succ, Nat.zero_add]
    refine wpHd_take (i := 8) (v := ?_) (by kernel_rfl) (by simp only [List.getElem?_toArray, List.getElem?_cons_succ, List.getElem?_cons_zero] <;> rfl) (by kernel_rfl) (fun _ _ _ h => h) (Or.inl ⟨by rfl, ?_⟩) (by assumption) ?_
    rotate_left
    · (intro wS hSw; (try dsimp only at hSw); go_simp <;> with_reducible rfl)
    try simp only [Act.put, List.setIfInBounds_toArray, List.set_cons_zero, List.set_cons_succ, Nat.zero_add]
    refine wpHd_take (i := 9) (v := ?_) (by kernel_rfl) (by simp only [List.getElem?_toArray, List.getElem?_cons_succ, List.getElem?_cons_zero] <;> rfl) (by kernel_rfl) (fun _ _ _ h => h) (Or.inl ⟨by rfl, ?_⟩) (by assumption) ?_
    rotate_left
    · (intro wS hSw; (try dsimp only at hSw); go_simp <;> with_reducible rfl)
    try simp only [Act.put, List.setIfInBounds_toArray, List.set_cons_zero, List.set_cons_succ, Nat.zero_add]
    refine wpHd_ready (rs := [5, 14]) (by kernel_rfl) (by simp) ?_
    refine (RdyHd.cons (by simp only [List.getElem?_toArray, List.getElem?_cons_succ, List.getElem?_cons_zero] <;> rfl) (by decide) (fun K hK => ?_) (RdyHd.cons (by simp only [List.getElem?_toArray, List.getElem?_cons_succ, List.getElem?_cons_zero] <;> rfl) (by decide) (fun K hK => ?_) RdyHd.nil))
    · go_simp
      go_at_call 35
      have ca := HS0.out.arrayY (i := 0) rfl HOY.out
      simp only [Ar.v] at ca
      refine ca.mono ?_
      rintro e w5 ⟨gy, dy, ky, ey, rfl, hdy, hey, h5⟩
      simp only [List.set_cons_zero] at h5
      have HS1 := Lib.hid h5
      clear ca h5 d4 d5 d6 d7
      have d4 := HS1.out.cell (i := 2) rfl 4 _ rfl; have d5 := HS1.out.cell (i := 2) rfl 5 _ rfl; have d6 := HS1.out.cell (i := 2) rfl 6 _ rfl; have d7 := HS1.out.cell (i := 2) rfl 7 _ rfl
      (try go_simp)
      refine hK.out _ _ ?_ (fun hHeld => ?_)
      · exact ⟨d4, d5, d6, d7⟩
      clear hK K
      try simp only [Act.put, List.setIfInBounds_toArray, List.set_cons_zero, List.set_cons_succ, Nat.zero_add]
      refine wpHd_ready (rs := [10, 14]) (by kernel_rfl) (by simp) ?_
      refine (RdyHd.cons (by simp only [List.getElem?_toArray, List.getElem?_cons_succ, List.getElem?_cons_zero] <;> rfl) (by decide) (fun K hK => ?_) (RdyHd.cons (by simp only [List.getElem?_toArray, List.getElem?_cons_succ, List.getElem?_cons_zero] <;> rfl) (by decide) (fun K hK => ?_) RdyHd.nil))
      · go_simp
        go_at_call 22
        have ca := part_any (HS1.out.isY (i := 0) rfl HOY.out hdy hey) mm nn HM.out HN.out
        try simp only [Ar.v] at ca
        rw [HvS.out, HvA.out, HvE.out] at ca
        refine ca.mono ?_
        rintro e w6 ⟨B1, rfl, hI6, hB1, hT1, hO6, hb6⟩
        have HS2_ := HS1.out.arrNew hI6 hO6 hb6
        try simp only [List.cons_append, List.nil_append, List.set_cons_zero, List.set_cons_succ, List.map_cons, List.map_nil, List.getD_cons_zero, List.getD_cons_succ, World.size_alloc] at HS2_
        have HS2 := Lib.hid HS2_
        clear HS2_
        clear ca d4 d5 d6 d7
        have d4 := HS2.out.cell (i := 2) rfl 4 _ rfl; have d5 := HS2.out.cell (i := 2) rfl 5 _ rfl; have d6 := HS2.out.cell (i := 2) rfl 6 _ rfl; have d7 := HS2.out.cell (i := 2) rfl 7 _ rfl
        (try go_simp)
        (try simp only [Ar.v])
        refine hK.out _ _ ?_ (fun hHeld => ?_)
        · exact ⟨d4, d5, d6, d7⟩
        clear hK K
        try simp only [Act.put, List.setIfInBounds_toArray, List.set_cons_zero, List.set_cons_succ, Nat.zero_add]
        refine wpHd_take (i := 11) (v := ?_) (by kernel_rfl) (by simp only [List.getElem?_toArray, List.getElem?_cons_succ, List.getElem?_cons_zero] <;> rfl) (by kernel_rfl) (fun _ _ _ h => h) (Or.inl ⟨by rfl, ?_⟩) (by assumption) ?_
        rotate_left
        · (intro wS hSw; (try dsimp only at hSw); go_simp <;> with_reducible rfl)
        try simp only [Act.put, List.setIfInBounds_toArray, List.set_cons_zero, List.set_cons_succ, Nat.zero_add]
        refine wpHd_take (i := 12) (v := ?_) (by kernel_rfl) (by simp only [List.getElem?_toArray, List.getElem?_cons_succ, List.getElem?_cons_zero] <;> rfl) (by kernel_rfl) (fun _ _ _ h => h) (Or.inl ⟨by rfl, ?_⟩) (by assumption) ?_
        rotate_left
        · (intro wS hSw; (try dsimp only at hSw); go_simp <;> with_reducible rfl)
        try simp only [Act.put, List.setIfInBounds_toArray, List.set_cons_zero, List.set_cons_succ, Nat.zero_add]
        refine wpHd_take (i := 13) (v := ?_) (by kernel_rfl) (by simp only [List.getElem?_toArray, List.getElem?_cons_succ, List.getElem?_cons_zero] <;> rfl) (by kernel_rfl) (fun _ _ _ h => h) (Or.inl ⟨by rfl, ?_⟩) (by assumption) ?_
        rotate_left
        · (intro wS hSw; (try dsimp only at hSw); go_simp <;> with_reducible rfl)
        try simp only [Act.put, List.setIfInBounds_toArray, List.set_cons_zero, List.set_cons_succ, Nat.zero_add]
        refine wpHd_ready (rs := [14]) (by kernel_rfl) (by simp) ?_
        refine (RdyHd.cons (by simp only [List.getElem?_toArray, List.getElem?_cons_succ, List.getElem?_cons_zero] <;> rfl) (by decide) (fun K hK => ?_) RdyHd.nil)
        · go_simp
          have HS3_ := HS2.out.alloc 45 2 1 #[.slice none 0 0, .slice none 0 0] rfl (by decide)
          try simp only [List.cons_append, List.nil_append, List.set_cons_zero, List.set_cons_succ, List.map_cons, List.map_nil, List.getD_cons_zero, List.getD_cons_succ, World.size_alloc] at HS3_
          have HS3 := Lib.hid HS3_
          clear HS3_
          clear d4 d5 d6 d7
          have d4 := HS3.out.cell (i := 2) rfl 4 _ rfl; have d5 := HS3.out.cell (i := 2) rfl 5 _ rfl; have d6 := HS3.out.cell (i := 2) rfl 6 _ rfl; have d7 := HS3.out.cell (i := 2) rfl 7 _ rfl
          refine hK.out _ _ ?_ (fun hHeld => ?_)
          · exact ⟨d4, d5, d6, d7⟩
          clear hK K
          try simp only [Act.put, List.setIfInBounds_toArray, List.set_cons_zero, List.set_cons_succ, Nat.zero_add]
          refine wpHd_ready (rs := [15]) (by kernel_rfl) (by simp) ?_
          refine (RdyHd.cons (by simp only [List.getElem?_toArray, List.getElem?_cons_succ, List.getElem?_cons_zero] <;> rfl) (by decide) (fun K hK => ?_) RdyHd.nil)
          · have c0 := HS3.out.cell (i := 4) rfl 0 _ rfl; have f0 := HS3.out.frozen (i := 4) rfl 0; have c1 := HS3.out.cell (i := 4) rfl 1 _ rfl; have f1 := HS3.out.frozen (i := 4) rfl 1
            go_simp
            have HS4_ := HS2.out.alloc 45 2 1 #[.slice B1.sa B1.sn B1.sc, .slice B1.aa B1.an B1.ac] rfl (by decide)
            try simp only [List.cons_append, List.nil_append, List.set_cons_zero, List.set_cons_succ, List.map_cons, List.map_nil, List.getD_cons_zero, List.getD_cons_succ, World.size_alloc] at HS4_
            have HS4 := Lib.hid HS4_
            clear HS4_
            clear c0 f0 c1 f1 d4 d5 d6 d7
            have d4 := HS4.out.cell (i := 2) rfl 4 _ rfl; have d5 := HS4.out.cell (i := 2) rfl 5 _ rfl; have d6 := HS4.out.cell (i := 2) rfl 6 _ rfl; have d7 := HS4.out.cell (i := 2) rfl 7 _ rfl
            refine hK.out _ _ ?_ (fun hHeld => ?_)
            · exact ⟨d4, d5, d6, d7⟩
            clear hK K
            try simp only [Act.put, List.setIfInBounds_toArray, List.set_cons_zero, List.set_cons_succ, Nat.zero_add]
            refine wpHd_done (by kernel_rfl) ?_
            simp only [List.drop_succ_cons, List.drop_zero]
            go_wp2_with fail
            refine NoPanic.normal ?_
            go_wp2_with fail
            go_meet
            exact ⟨w6.heap.size, gy, dy, ky, ey, B1, rfl, rfl, ⟨hB1, hT1⟩, HS4.out.pick [0, 1, 2, 3, 4] (by decide)⟩
      · go_simp
        have HS2_ := HS1.out.alloc 45 2 1 #[.slice none 0 0, .slice none 0 0] rfl (by decide)
        try simp only [List.cons_append, List.nil_append, List.set_cons_zero, List.set_cons_succ, List.map_cons, List.map_nil, List.getD_cons_zero, List.getD_cons_succ, World.size_alloc] at HS2_
        have HS2 := Lib.hid HS2_
        clear HS2_
        clear d4 d5 d6 d7
        have d4 := HS2.out.cell (i := 2) rfl 4 _ rfl; have d5 := HS2.out.cell (i := 2) rfl 5 _ rfl; have d6 := HS2.out.cell (i := 2) rfl 6 _ rfl; have d7 := HS2.out.cell (i := 2) rfl 7 _ rfl
        refine hK.out _ _ ?_ (fun hHeld => ?_)
        · exact ⟨d4, d5, d6, d7⟩
        clear hK K
        try simp only [Act.put, List.setIfInBounds_toArray, List.set_cons_zero, List.set_cons_succ, Nat.zero_add]
        refine wpHd_ready (rs := [10]) (by kernel_rfl) (by simp) ?_
        refine (RdyHd.cons (by simp only [List.getElem?_toArray, List.getElem?_cons_succ, List.getElem?_cons_zero] <;> rfl) (by decide) (fun K hK => ?_) RdyHd.nil)
        · go_simp
          go_at_call 22
          have ca := part_any (HS2.out.isY (i := 0) rfl HOY.out hdy hey) mm nn HM.out HN.out
          try simp only [Ar.v] at ca
          rw [HvS.out, HvA.out, HvE.out] at ca
          refine ca.mono ?_
          rintro e w6 ⟨B1, rfl, hI6, hB1, hT1, hO6, hb6⟩
          have HS3_ := HS2.out.arrNew hI6 hO6 hb6
          try simp only [List.cons_append, List.nil_append, List.set_cons_zero, List.set_cons_succ, List.map_cons, List.map_nil, List.getD_cons_zero, List.getD_cons_succ, World.size_alloc] at HS3_
          have HS3 := Lib.hid HS3_
          clear HS3_
          clear ca d4 d5 d6 d7
          have d4 := HS3.out.cell (i := 2) rfl 4 _ rfl; have d5 := HS3.out.cell (i := 2) rfl 5 _ rfl; have d6 := HS3.out.cell (i := 2) rfl 6 _ rfl; have d7 := HS3.out.cell (i := 2) rfl 7 _ rfl
          (try go_simp)
          (try simp only [Ar.v])
          refine hK.out _ _ ?_ (fun hHeld => ?_)
          · exact ⟨d4, d5, d6, d7⟩
          clear hK K
          try simp only [Act.put, List.setIfInBounds_toArray, List.set_cons_zero, List.set_cons_succ, Nat.zero_add]
          refine wpHd_take (i := 11) (v := ?_) (by kernel_rfl) (by simp only [List.getElem?_toArray, List.getElem?_cons_succ, List.getElem?_cons_zero] <;> rfl) (by kernel_rfl) (fun _ _ _ h => h) (Or.inl ⟨by rfl, ?_⟩) (by assumption) ?_
          rotate_left
          · (intro wS hSw; (try dsimp only at hSw); go_simp <;> with_reducible rfl)
          try simp only [Act.put, List.setIfInBounds_toArray, List.set_cons_zero, List.set_cons_succ, Nat.zero_add]
          refine wpHd_take (i := 12) (v := ?_) (by kernel_rfl) (by simp only [List.getElem?_toArray, List.getElem?_cons_succ, List.getElem?_cons_zero] <;> rfl) (by kernel_rfl) (fun _ _ _ h => h) (Or.inl ⟨by rfl, ?_⟩) (by assumption) ?_
          rotate_left
          · (intro wS hSw; (try dsimp only at hSw); go_simp <;> with_reducible rfl)
          try simp only [Act.put, List.setIfInBounds_toArray, List.set_cons_zero, List.set_cons_succ, Nat.zero_add]
          refine wpHd_take (i := 13) (v := ?_) (by kernel_rfl) (by simp only [List.getElem?_toArray, List.getElem?_cons_succ, List.getElem?_cons_zero] <;> rfl) (by kernel_rfl) (fun _ _ _ h => h) (Or.inl ⟨by rfl, ?_⟩) (by assumption) ?_
          rotate_left
          · (intro wS hSw; (try dsimp only at hSw); go_simp <;> with_reducible rfl)
          try simp only [Act.put, List.setIfInBounds_toArray, List.set_cons_zero, List.set_cons_succ, Nat.zero_add]
          refine wpHd_ready (rs := [15]) (by kernel_rfl) (by simp) ?_
          refine (RdyHd.cons (by simp only [List.getElem?_toArray, List.getElem?_cons_succ, List.getElem?_cons_zero] <;> rfl) (by decide) (fun K hK => ?_) RdyHd.nil)
          · have c0 := HS3.out.cell (i := 3) rfl 0 _ rfl; have f0 := HS3.out.frozen (i := 3) rfl 0; have c1 := HS3.out.cell (i := 3) rfl 1 _ rfl; have f1 := HS3.out.frozen (i := 3) rfl 1
            go_simp
            have HS4_ := ((HS3.out.put (i := 3) rfl 0 (.slice B1.sa B1.sn B1.sc)).put (i := 3) rfl 1 (.slice B1.aa B1.an B1.ac))
            try simp only [List.cons_append, List.nil_append, List.set_cons_zero, List.set_cons_succ, List.map_cons, List.map_nil, List.getD_cons_zero, List.getD_cons_succ, World.size_alloc] at HS4_
            have HS4 := Lib.hid HS4_
            clear HS4_
            clear c0 f0 c1 f1 d4 d5 d6 d7
            have d4 := HS4.out.cell (i := 2) rfl 4 _ rfl; have d5 := HS4.out.cell (i := 2) rfl 5 _ rfl; have d6 := HS4.out.cell (i := 2) rfl 6 _ rfl; have d7 := HS4.out.cell (i := 2) rfl 7 _ rfl
            refine hK.out _ _ ?_ (fun hHeld => ?_)
            · exact ⟨d4, d5, d6, d7⟩
            clear hK K
            try simp only [Act.put, List.setIfInBounds_toArray, List.set_cons_zero, List.set_cons_succ, Nat.zero_add]
            refine wpHd_done (by kernel_rfl) ?_
            simp only [List.drop_succ_cons, List.drop_zero]
            go_wp2_with fail
            refine NoPanic.normal ?_
            go_wp2_with fail
            go_meet
            exact ⟨w5.heap.size, gy, dy, ky, ey, B1, rfl, rfl, ⟨hB1, hT1⟩, HS4.out.pick [0, 1, 2, 4, 3] (by decide)⟩
    · go_simp
      have HS1_ := (HSA.out.alloc 45 2 1 #[.slice none 0 0, .slice none 0 0] rfl (by decide)).via (adrew1 _)
      try simp only [List.cons_append, List.nil_append, List.set_cons_zero, List.set_cons_succ, List.map_cons, List.map_nil, List.getD_cons_zero, List.getD_cons_succ, World.size_alloc] at HS1_
      have HS1 := Lib.hid HS1_
      clear HS1_
      clear d4 d5 d6 d7
      have d4 := HS1.out.cell (i := 2) rfl 4 _ rfl; have d5 := HS1.out.cell (i := 2) rfl 5 _ rfl; have d6 := HS1.out.cell (i := 2) rfl 6 _ rfl; have d7 := HS1.out.cell (i := 2) rfl 7 _ rfl
      refine hK.out _ _ ?_ (fun hHeld => ?_)
      · exact ⟨d4, d5, d6, d7⟩
      clear hK K
      try simp only [Act.put, List.setIfInBounds_toArray, List.set_cons_zero, List.set_cons_succ, Nat.zero_add]
      refine wpHd_ready (rs := [5]) (by kernel_rfl) (by simp) ?_
      refine (RdyHd.cons (by simp only [List.getElem?_toArray, List.getElem?_cons_succ, List.getElem?_cons_zero] <;> rfl) (by decide) (fun K hK => ?_) RdyHd.nil)
      · go_simp
        go_at_call 35
        have ca := HS1.out.arrayY (i := 0) rfl HOY.out
        simp only [Ar.v] at ca
        refine ca.mono ?_
        rintro e w5 ⟨gy, dy, ky, ey, rfl, hdy, hey, h5⟩
        simp only [List.set_cons_zero] at h5
        have HS2 := Lib.hid h5
        clear ca h5 d4 d5 d6 d7
        have d4 := HS2.out.cell (i := 2) rfl 4 _ rfl; have d5 := HS2.out.cell (i := 2) rfl 5 _ rfl; have d6 := HS2.out.cell (i := 2) rfl 6 _ rfl; have d7 := HS2.out.cell (i := 2) rfl 7 _ rfl
        (try go_simp)
        refine hK.out _ _ ?_ (fun hHeld => ?_)
        · exact ⟨d4, d5, d6, d7⟩
        clear hK K
        try simp only [Act.put, List.setIfInBounds_toArray, List.set_cons_zero, List.set_cons_succ, Nat.zero_add]
        refine wpHd_ready (rs := [10]) (by kernel_rfl) (by simp) ?_
        refine (RdyHd.cons (by simp only [List.getElem?_toArray, List.getElem?_cons_succ, List.getElem?_cons_zero] <;> rfl) (by decide) (fun K hK => ?_) RdyHd.nil)
        · go_simp
          go_at_call 22
          have ca := part_any (HS2.out.isY (i := 0) rfl HOY.out hdy hey) mm nn HM.out HN.out
          try simp only [Ar.v] at ca
          rw [HvS.out, HvA.out, HvE.out] at ca
          refine ca.mono ?_
          rintro e w6 ⟨B1, rfl, hI6, hB1, hT1, hO6, hb6⟩
          have HS3_ := HS2.out.arrNew hI6 hO6 hb6
          try simp only [List.cons_append, List.nil_append, List.set_cons_zero, List.set_cons_succ, List.map_cons, List.map_nil, List.getD_cons_zero, List.getD_cons_succ, World.size_alloc] at HS3_
          have HS3 := Lib.hid HS3_
          clear HS3_
          clear ca d4 d5 d6 d7
          have d4 := HS3.out.cell (i := 2) rfl 4 _ rfl; have d5 := HS3.out.cell (i := 2) rfl 5 _ rfl; have d6 := HS3.out.cell (i := 2) rfl 6 _ rfl; have d7 := HS3.out.cell (i := 2) rfl 7 _ rfl
          (try go_simp)
          (try simp only [Ar.v])
          refine hK.out _ _ ?_ (fun hHeld => ?_)
          · exact ⟨d4, d5, d6, d7⟩
          clear hK K
          try simp only [Act.put, List.setIfInBounds_toArray, List.set_cons_zero, List.set_cons_succ, Nat.zero_add]
          refine wpHd_take (i := 11) (v := ?_) (by kernel_rfl) (by simp only [List.getElem?_toArray, List.getElem?_cons_succ, List.getElem?_cons_zero] <;> rfl) (by kernel_rfl) (fun _ _ _ h => h) (Or.inl ⟨by rfl, ?_⟩) (by assumption) ?_
          rotate_left
          · (intro wS hSw; (try dsimp only at hSw); go_simp <;> with_reducible rfl)
          try simp only [Act.put, List.setIfInBounds_toArray, List.set_cons_zero, List.set_cons_succ, Nat.zero_add]
          refine wpHd_take (i := 12) (v := ?_) (by kernel_rfl) (by simp only [List.getElem?_toArray, List.getElem?_cons_succ, List.getElem?_cons_zero] <;> rfl) (by kernel_rfl) (fun _ _ _ h => h) (Or.inl ⟨by rfl, ?_⟩) (by assumption) ?_
          rotate_left
          · (intro wS hSw; (try dsimp only at hSw); go_simp <;> with_reducible rfl)
          try simp only [Act.put, List.setIfInBounds_toArray, List.set_cons_zero, List.set_cons_succ, Nat.zero_add]
          refine wpHd_take (i := 13) (v := ?_) (by kernel_rfl) (by simp only [List.getElem?_toArray, List.getElem?_cons_succ, List.getElem?_cons_zero] <;> rfl) (by kernel_rfl) (fun _ _ _ h => h) (Or.inl ⟨by rfl, ?_⟩) (by assumption) ?_
          rotate_left
          · (intro wS hSw; (try dsimp only at hSw); go_simp <;> with_reducible rfl)
          try simp only [Act.put, List.setIfInBounds_toArray, List.set_cons_zero, List.set_cons_succ, Nat.zero_add]
          refine wpHd_ready (rs := [15]) (by kernel_rfl) (by simp) ?_
          refine (RdyHd.cons (by simp only [List.getElem?_toArray, List.getElem?_cons_succ, List.getElem?_cons_zero] <;> rfl) (by decide) (fun K hK => ?_) RdyHd.nil)
          · have c0 := HS3.out.cell (i := 3) rfl 0 _ rfl; have f0 := HS3.out.frozen (i := 3) rfl 0; have c1 := HS3.out.cell (i := 3) rfl 1 _ rfl; have f1 := HS3.out.frozen (i := 3) rfl 1
            go_simp
            have HS4_ := ((HS3.out.put (i := 3) rfl 0 (.slice B1.sa B1.sn B1.sc)).put (i := 3) rfl 1 (.slice B1.aa B1.an B1.ac))
            try simp only [List.cons_append, List.nil_append, List.set_cons_zero, List.set_cons_succ, List.map_cons, List.map_nil, List.getD_cons_zero, List.getD_cons_succ, World.size_alloc] at HS4_
            have HS4 := Lib.hid HS4_
            clear HS4_
            clear c0 f0 c1 f1 d4 d5 d6 d7
            have d4 := HS4.out.cell (i := 2) rfl 4 _ rfl; have d5 := HS4.out.cell (i := 2) rfl 5 _ rfl; have d6 := HS4.out.cell (i := 2) rfl 6 _ rfl; have d7 := HS4.out.cell (i := 2) rfl 7 _ rfl
            refine hK.out _ _ ?_ (fun hHeld => ?_)
            · exact ⟨d4, d5, d6, d7⟩
            clear hK K
            try simp only [Act.put, List.setIfInBounds_toArray, List.set_cons_zero, List.set_cons_succ, Nat.zero_add]
            refine wpHd_done (by kernel_rfl) ?_
            simp only [List.drop_succ_cons, List.drop_zero]
            go_wp2_with fail
            refine NoPanic.normal ?_
            go_wp2_with fail
            go_meet
            exact ⟨w3.heap.size, gy, dy, ky, ey, B1, rfl, rfl, ⟨hB1, hT1⟩, HS4.out.pick [0, 1, 2, 4, 3] (by decide)⟩
  case rest =>
    obtain ⟨gb, gy, dy, ky, ey, B1, rfl, rfl, HF1, HQ0⟩ := hcut
    obtain ⟨w10, hU⟩ : ∃ z : World, z = wc := ⟨_, rfl⟩
    subst hU
    clear d4 d5 d6 d7 HSA HS0 H1
    go_upto_region 15 with fail
    have HK0_ := HQ0.out.via (adrew1 w10)
    try simp only [List.cons_append, List.nil_append, List.set_cons_zero, List.set_cons_succ, List.map_cons, List.map_nil, List.getD_cons_zero, List.getD_cons_succ, World.size_alloc] at HK0_
    have HK0 := Lib.hid HK0_
    clear HK0_
    have d4 := HK0.out.cell (i := 2) rfl 4 _ rfl; have d5 := HK0.out.cell (i := 2) rfl 5 _ rfl
    refine wp_region_noPanic ?_
    refine wp_region_hd (S := (fun wS => wS.cell? ⟨b, 4, none⟩ = some (.slice y1 y2 y3) ∧ wS.cell? ⟨b, 5, none⟩ = some (.slice y4 y5 y6))) 6 (by kernel_rfl) (by kernel_rfl) ?_ (fun hHeld => ?_)
    · exact ⟨d4, d5⟩
    refine wpHd_take (i := 0) (v := ?_) (by kernel_rfl) (by simp only [List.getElem?_toArray, List.getElem?_cons_succ, List.getElem?_cons_zero] <;> rfl) (by kernel_rfl) (fun _ _ _ h => h) (Or.inl ⟨by rfl, ?_⟩) (by assumption) ?_
    rotate_left
    · (intro wS hSw; (try dsimp only at hSw); go_simp <;> with_reducible rfl)
    try simp only [Act.put, List.setIfInBounds_toArray, List.set_cons_zero, List.set_cons_succ, Nat.zero_add]
    refine wpHd_take (i := 1) (v := ?_) (by kernel_rfl) (by simp only [List.getElem?_toArray, List.getElem?_cons_succ, List.getElem?_cons_zero] <;> rfl) (by kernel_rfl) (fun _ _ _ h => h) (Or.inl ⟨by rfl, ?_⟩) (by assumption) ?_
    rotate_left
    · (intro wS hSw; (try dsimp only at hSw); go_simp <;> with_reducible rfl)
    try simp only [Act.put, List.setIfInBounds_toArray, List.set_cons_zero, List.set_cons_succ, Nat.zero_add]
    refine wpHd_take (i := 2) (v := ?_) (by kernel_rfl) (by simp only [List.getElem?_toArray, List.getElem?_cons_succ, List.getElem?_cons_zero] <;> rfl) (by kernel_rfl) (fun _ _ _ h => h) (Or.inl ⟨by rfl, ?_⟩) (by assumption) ?_
    rotate_left
    · (intro wS hSw; (try dsimp only at hSw); go_simp <;> with_reducible rfl)
    try simp only [Act.put, List.setIfInBounds_toArray, List.set_cons_zero, List.set_cons_succ, Nat.zero_add]
    refine wpHd_take (i := 3) (v := ?_) (by kernel_rfl) (by simp only [List.getElem?_toArray, List.getElem?_cons_succ, List.getElem?_cons_zero] <;> rfl) (by kernel_rfl) (fun _ _ _ h => h) (Or.inl ⟨by rfl, ?_⟩) (by assumption) ?_
    rotate_left
    · (intro wS hSw; (try dsimp only at hSw); go_simp <;> with_reducible rfl)
    try simp only [Act.put, List.setIfInBounds_toArray, List.set_cons_zero, List.set_cons_succ, Nat.zero_add]
    refine wpHd_take (i := 4) (v := ?_) (by kernel_rfl) (by simp only [List.getElem?_toArray, List.getElem?_cons_succ, List.getElem?_cons_zero] <;> rfl) (by kernel_rfl) (fun _ _ _ h => h) (Or.inl ⟨by rfl, ?_⟩) (by assumption) ?_
    rotate_left
    · (intro wS hSw; (try dsimp only at hSw); go_simp <;> with_reducible rfl)
    try simp only [Act.put, List.setIfInBounds_toArray, List.set_cons_zero, List.set_cons_succ, Nat.zero_add]
    refine wpHd_ready (rs := [5]) (by kernel_rfl) (by simp) ?_
    refine (RdyHd.cons (by simp only [List.getElem?_toArray, List.getElem?_cons_succ, List.getElem?_cons_zero] <;> rfl) (by decide) (fun K hK => ?_) RdyHd.nil)
    · go_simp
      go_at_call 36
      have ca := HK0.out.keptY (i := 0) rfl HOY.out
      simp only [Ar.v] at ca
      refine ca.mono ?_
      rintro e w11 ⟨rfl, h5⟩
      have HQ1_ := h5
      try simp only [List.cons_append, List.nil_append, List.set_cons_zero, List.set_cons_succ, List.map_cons, List.map_nil, List.getD_cons_zero, List.getD_cons_succ, World.size_alloc] at HQ1_
      have HQ1 := Lib.hid HQ1_
      clear HQ1_
      clear ca h5 d4 d5
      have d4 := HQ1.out.cell (i := 2) rfl 4 _ rfl; have d5 := HQ1.out.cell (i := 2) rfl 5 _ rfl
      (try go_simp)
      refine hK.out _ _ ?_ (fun hHeld => ?_)
      · exact ⟨d4, d5⟩
      clear hK K
      try simp only [Act.put, List.setIfInBounds_toArray, List.set_cons_zero, List.set_cons_succ, Nat.zero_add]
      refine wpHd_done (by kernel_rfl) ?_
      simp only [List.drop_succ_cons, List.drop_zero]
      go_wp2_with fail
      refine NoPanic.normal ?_
      clear d4 d5 HK0
      skip
      have d4 := HQ1.out.cell (i := 2) rfl 4 _ rfl; have d5 := HQ1.out.cell (i := 2) rfl 5 _ rfl; have d6 := HQ1.out.cell (i := 2) rfl 6 _ rfl; have d7 := HQ1.out.cell (i := 2) rfl 7 _ rfl
      have cr := rpart_any (HOY.out.below HQ1.out.belowN (Nat.le_refl _)) mm nn HM.out HN.out
      try simp only [Ar.v] at cr
      rw [HvS.out, HvA.out, HvE.out] at cr
      have CR := Lib.hid cr
      clear cr
      go_wp2_with fail
      refine CR.out.mono ?_; rintro e w20 ⟨B2, rfl, hI6, hB2, hT2, hO6, hb6⟩
      obtain ⟨WE, HWE⟩ : ∃ z, Hid (w20.alloc (.cells #[.slice B2.sa B2.sn B2.sc, .slice B2.aa B2.an B2.ac] 45) = z) := ⟨_, rfl⟩
      have h7 := (HQ1.out.arrNew hI6 hO6 hb6).alloc 45 2 1 #[.slice B2.sa B2.sn B2.sc, .slice B2.aa B2.an B2.ac] rfl (by decide)
      obtain ⟨b2, HB2⟩ : ∃ z, Hid (w20.heap.size = z) := ⟨_, rfl⟩
      rw [HWE.out, HB2.out] at h7
      have HE_ := h7
      try simp only [List.cons_append, List.nil_append, List.set_cons_zero, List.set_cons_succ, List.map_cons, List.map_nil, List.getD_cons_zero, List.getD_cons_succ, World.size_alloc] at HE_
      have HE := Lib.hid HE_
      clear HE_
      clear h7 CR d4 d5 d6 d7
      have HF2 : Hid (B2.s = vS ∧ B2.a = vA) := ⟨hB2, hT2⟩
      try simp only [Ar.v]
      go_upto_region 17 with fail
      rw [HWE.out, HB2.out]
      have p0 := HE.out.cell (i := 4) rfl 0 _ rfl
      have q0 := HE.out.cell (i := 6) rfl 0 _ rfl
      have p1 := HE.out.cell (i := 4) rfl 1 _ rfl
      have q1 := HE.out.cell (i := 6) rfl 1 _ rfl
      have ce := eq4_any (HE.out.isA (i := 3) rfl) (HE.out.isA (i := 5) rfl)
      rw [decide_eq_true (And.intro (HF1.out.1.trans HF2.out.1.symm) (HF1.out.2.trans HF2.out.2.symm))] at ce
      simp only [Ar.v] at ce
      have CE0 := Lib.hid ce
      clear ce
      go_wp2_with fail
      refine CE0.out.mono ?_; rintro e w30 ⟨rfl, hb9⟩
      have HE0_ := HE.out.via hb9
      try simp only [List.cons_append, List.nil_append, List.set_cons_zero, List.set_cons_succ, List.map_cons, List.map_nil, List.getD_cons_zero, List.getD_cons_succ, World.size_alloc] at HE0_
      have HE0 := Lib.hid HE0_
      clear HE0_
      clear hb9 p0 q0 p1 q1
      have HF : Hid (PlaysP w0 hb G (.returned (.bool true)) w30) := ⟨rfl, HE0.out.pick [0, 1] (by decide)⟩
      go_wp2
      exact bodyPost_ret (v := .bool true) (by simp [results, Try.results9, go_sem, *]) rfl HF.out
set_option maxRecDepth 100000 in
set_option maxHeartbeats 6400000 in
theorem cplays_4 {w0 w : World} {hb : Nat} {G : Pt} (H : Sp Non w0 w [Pt.hands hb none none none none, G]) {o : OpC} (hO : o.Is w0) (hk : o.k = 4) : Calls Try.prog 9 #[.pointer (some ⟨hb, 0, none⟩), o.v] w (PlaysP w0 hb G) := by
  obtain ⟨kk, on, ⟨x1, x2, x3, x4, x5, x6, xs, xt⟩, ⟨y1, y2, y3, y4, y5, y6, ys, yt⟩, mm, nn, ll, po, pn, pc, pf, qo, qn, qc, qs, tl⟩ := o
  obtain ⟨hX, hY, hF, hL, hM, hN, hLL, hBG⟩ := hO
  simp only at hk hX hY hF hL hM hN hLL hBG
  subst hk
  have HOX := Lib.hid hX
  have HOY := Lib.hid hY
  have HOF := Lib.hid hF
  have HOL := Lib.hid hL
  have HM := Lib.hid hM
  have HN := Lib.hid hN
  have HLL := Lib.hid hLL
  have HBG := Lib.hid hBG
  simp only [OpC.v]
  obtain ⟨b, HB⟩ : ∃ z, Hid (w.heap.size = z) := ⟨_, rfl⟩
  obtain ⟨W, HW⟩ : ∃ z, Hid (w.alloc (.cells #[.int .i64 4, .int .i64 on, .slice x1 x2 x3, .slice x4 x5 x6, .slice y1 y2 y3, .slice y4 y5 y6, .int .i64 mm, .int .i64 nn, .int .i64 ll, .slice po pn pc, .slice qo qn qc, .bool tl] 47) = z) := ⟨_, rfl⟩
  have h1 := H.alloc 47 12 1 #[.int .i64 4, .int .i64 on, .slice x1 x2 x3, .slice x4 x5 x6, .slice y1 y2 y3, .slice y4 y5 y6, .int .i64 mm, .int .i64 nn, .int .i64 ll, .slice po pn pc, .slice qo qn qc, .bool tl] rfl (by decide)
  rw [HW.out, HB.out] at h1
  have H1_ := h1
  try simp only [List.cons_append, List.nil_append, List.set_cons_zero, List.set_cons_succ, List.map_cons, List.map_nil, List.getD_cons_zero, List.getD_cons_succ, World.size_alloc] at H1_
  have H1 := Lib.hid H1_
  clear H1_
  clear h1 H hX hY hF hL hM hN hLL hBG
  obtain ⟨vP, HvP⟩ : ∃ z, Hid (pcP ys yt ll = z) := ⟨_, rfl⟩
  obtain ⟨vS, HvS⟩ : ∃ z, Hid (pcS ys yt ll = z) := ⟨_, rfl⟩
  obtain ⟨vA, HvA⟩ : ∃ z, Hid (pcA ys yt ll = z) := ⟨_, rfl⟩
  obtain ⟨vE, HvE⟩ : ∃ z, Hid (pcE ys yt ll = z) := ⟨_, rfl⟩
  have x0 := H1.out.cell (i := 2) rfl 0 _ rfl
  go_enter Try.func9, Try.ntmps9
  go_upto_region 1 with fail
  rw [HW.out, HB.out]
  go_upto_region 19 with fail
  obtain ⟨w3, Hw3⟩ : ∃ z, Hid (W = z) := ⟨_, rfl⟩
  rw [Hw3.out] at H1 ⊢
  have HSA := H1
  clear x0
  have HS0_ := HSA.out.via (adrew1 w3)
  try simp only [List.cons_append, List.nil_append, List.set_cons_zero, List.set_cons_succ, List.map_cons, List.map_nil, List.getD_cons_zero, List.getD_cons_succ, World.size_alloc] at HS0_
  have HS0 := Lib.hid HS0_
  clear HS0_
  have d4 := HS0.out.cell (i := 2) rfl 4 _ rfl; have d5 := HS0.out.cell (i := 2) rfl 5 _ rfl; have d8 := HS0.out.cell (i := 2) rfl 8 _ rfl
  go_cut [21, 22, 23] from 186 to 198 (fun (v21 v22 v23 : Value) (wx : World) => ∃ (gb : Nat) (gy dy ky ey : Nat) (po1 : Option Addr) (pn1 pc1 : Nat) (B1 : Ar), v21 = .slice po1 pn1 pc1 ∧ v22 = .pointer (some ⟨gb, 0, none⟩) ∧ v23 = .int .i64 vE ∧ Hid (vP.length = pn1 ∧ B1.s = vS ∧ B1.a = vA) ∧ Hid (Sp Non w0 wx [Pt.hands hb none (some (laid4 ys yt gy dy ky ey)) none none, G, Pt.row ⟨47, 12, some ⟨b, 0, none⟩, 1, 1, [.int .i64 4, .int .i64 on, .slice x1 x2 x3, .slice x4 x5 x6, .slice y1 y2 y3, .slice y4 y5 y6, .int .i64 mm, .int .i64 nn, .int .i64 ll, .slice po pn pc, .slice qo qn qc, .bool tl]⟩, Pt.row ⟨93, 2, po1, pn1, pc1, cellsP vP⟩, Pt.arr B1, Pt.row ⟨45, 2, some ⟨gb, 0, none⟩, 1, 1, [.slice B1.sa B1.sn B1.sc, .slice B1.aa B1.an B1.ac]⟩]))
  case first =>
    go_upto_region 19 with fail
    refine wp_region_noPanic ?_
    refine wp_region_hd (S := (fun wS => wS.cell? ⟨b, 4, none⟩ = some (.slice y1 y2 y3) ∧ wS.cell? ⟨b, 5, none⟩ = some (.slice y4 y5 y6) ∧ wS.cell? ⟨b, 8, none⟩ = some (.int .i64 ll))) 16 (by kernel_rfl) (by kernel_rfl) ?_ (fun hHeld => ?_)
    · exact ⟨d4, d5, d8⟩
    refine wpHd_take (i := 0) (v := ?_) (by kernel_rfl) (by simp only [List.getElem?_toArray, List.getElem?_cons_succ, List.getElem?_cons_zero] <;> rfl) (by kernel_rfl) (fun _ _ _ h => h) (Or.inl ⟨by rfl, ?_⟩) (by assumption) ?_
    rotate_left
    · (intro wS hSw; (try dsimp only at hSw); go_simp <;> with_reducible rfl)
    try simp only [Act.put, List.setIfInBounds_toArray, List.set_cons_zero, List.set_cons_succ, Nat.zero_add]
    refine wpHd_take (i := 1) (v := ?_) (by kernel_rfl) (by simp only [List.getElem?_toArray, List.getElem?_cons_succ, List.getElem?_cons_zero] <;> rfl) (by kernel_rfl) (fun _ _ _ h => h) (Or.inl ⟨by rfl, ?_⟩) (by assumption) ?_
    rotate_left
    · (intro wS hSw; (try dsimp only at hSw); go_simp <;> with_reducible rfl)
    try simp only [Act.put, List.setIfInBounds_toArray, List.set_cons_zero, List.set_cons_succ, Nat.zero_add]
    refine wpHd_take (i := 2) (v := ?_) (by kernel_rfl) (by simp only [List.getElem?_toArray, List.getElem?_cons_succ, List.getElem?_cons_zero] <;> rfl) (by kernel_rfl) (fun _ _ _ h => h) (Or.inl ⟨by rfl, ?_⟩) (by assumption) ?_
    rotate_left
    · (intro wS hSw; (try dsimp only at hSw); go_simp <;> with_reducible rfl)
    try simp only [Act.put, List.setIfInBounds_toArray, List.set_cons_zero, List.set_cons_succ, Nat.zero_add]
    refine wpHd_take (i := 3) (v := ?_) (by kernel_rfl) (by simp only [List.getElem?_toArray, List.getElem?_cons_succ, List.getElem?_cons_zero] <;> rfl) (by kernel_rfl) (fun _ _ _ h => h) (Or.inl ⟨by rfl, ?_⟩) (by assumption) ?_
    rotate_left
    · (intro wS hSw; (try dsimp only at hSw); go_simp <;> with_reducible rfl)
    try simp only [Act.put, List.setIfInBounds_toArray, List.set_cons_zero, List.set_cons_succ, Nat.zero_add]
    refine wpHd_take (i := 4) (v := ?_) (by kernel_rfl) (by simp only [List.getElem?_toArray, List.getElem?_cons_succ, List.getElem?_cons_zero] <;> rfl) (by kernel_rfl) (fun _ _ _ h => h) (Or.inl ⟨by rfl, ?_⟩) (by assumption) ?_
    rotate_left
    · (intro wS hSw; (try dsimp only at hSw); go_simp <;> with_reducible rfl)
    try simp only [Act.put, List.setIfInBounds_toArray, List.set_cons_zero, List.set_cons_succ, Nat.zero_add]
    refine wpHd_take (i := 6) (v := ?_) (by kernel_rfl) (by simp only [List.getElem?_toArray, List.getElem?_cons_succ, List.getElem?_cons_zero] <;> rfl) (by kernel_rfl) (fun _ _ _ h => h) (Or.inl ⟨by rfl, ?_⟩) (by assumption) ?_
    rotate_left
    · (intro wS hSw; (try dsimp only at hSw); go_simp <;> with_reducible rfl)
    try simp only [Act.put, List.setIfInBounds_toArray, List.set_cons_zero, List.set_cons_succ, Nat.zero_add]
    refine wpHd_take (i := 7) (v := ?_) (by kernel_rfl) (by simp only [List.getElem?_toArray, List.getElem?_cons_succ, List.getElem?_cons_zero] <;> rfl) (by kernel_rfl) (fun _ _ _ h => h) (Or.inl ⟨by rfl, ?_⟩) (by assumption) ?_
    rotate_left
    · (intro wS hSw; (try dsimp only at hSw); go_simp <;> with_reducible rfl)
    try simp only [Act.put, List.setIfInBounds_toArray, List.set_cons_zero, List.set_cons_succ, Nat.zero_add]
    refine wpHd_ready (rs := [5, 13]) (by kernel_rfl) (by simp) ?_
    refine (RdyHd.cons (by simp only [List.getElem?_toArray, List.getElem?_cons_succ, List.getElem?_cons_zero] <;> rfl) (by decide) (fun K hK => ?_) (RdyHd.cons (by simp only [List.getElem?_toArray, List.getElem?_cons_succ, List.getElem?_cons_zero] <;> rfl) (by decide) (fun K hK => ?_) RdyHd.nil))
    · go_simp
      go_at_call 35
      have ca := HS0.out.arrayY (i := 0) rfl HOY.out
      simp only [Ar.v] at ca
      refine ca.mono ?_
      rintro e w5 ⟨gy, dy, ky, ey, rfl, hdy, hey, h5⟩
      simp only [List.set_cons_zero] at h5
      have HS1 := Lib.hid h5
      clear ca h5 d4 d5 d8
      have d4 := HS1.out.cell (i := 2) rfl 4 _ rfl; have d5 := HS1.out.cell (i := 2) rfl 5 _ rfl; have d8 := HS1.out.cell (i := 2) rfl 8 _ rfl
      (try go_simp)
      refine hK.out _ _ ?_ (fun hHeld => ?_)
      · exact ⟨d4, d5, d8⟩
      clear hK K
      try simp only [Act.put, List.setIfInBounds_toArray, List.set_cons_zero, List.set_cons_succ, Nat.zero_add]
      refine wpHd_ready (rs := [8, 13]) (by kernel_rfl) (by simp) ?_
      refine (RdyHd.cons (by simp only [List.getElem?_toArray, List.getElem?_cons_succ, List.getElem?_cons_zero] <;> rfl) (by decide) (fun K hK => ?_) (RdyHd.cons (by simp only [List.getElem?_toArray, List.getElem?_cons_succ, List.getElem?_cons_zero] <;> rfl) (by decide) (fun K hK => ?_) RdyHd.nil))
      · go_simp
        go_at_call 23
        have ca := pieces_any (HS1.out.isY (i := 0) rfl HOY.out hdy hey) ll HLL.out
        try simp only [Ar.v] at ca
        rw [HvP.out, HvS.out, HvA.out, HvE.out] at ca
        refine ca.mono ?_
        rintro e w6 ⟨po1, pn1, pc1, B1, rfl, h6, hP1, hB1, hT1⟩
        have HS2_ := HS1.out.add h6
        try simp only [List.cons_append, List.nil_append, List.set_cons_zero, List.set_cons_succ, List.map_cons, List.map_nil, List.getD_cons_zero, List.getD_cons_succ, World.size_alloc] at HS2_
        have HS2 := Lib.hid HS2_
        clear HS2_
        clear ca d4 d5 d8
        have d4 := HS2.out.cell (i := 2) rfl 4 _ rfl; have d5 := HS2.out.cell (i := 2) rfl 5 _ rfl; have d8 := HS2.out.cell (i := 2) rfl 8 _ rfl
        (try go_simp)
        (try simp only [Ar.v])
        refine hK.out _ _ ?_ (fun hHeld => ?_)
        · exact ⟨d4, d5, d8⟩
        clear hK K
        try simp only [Act.put, List.setIfInBounds_toArray, List.set_cons_zero, List.set_cons_succ, Nat.zero_add]
        refine wpHd_take (i := 9) (v := ?_) (by kernel_rfl) (by simp only [List.getElem?_toArray, List.getElem?_cons_succ, List.getElem?_cons_zero] <;> rfl) (by kernel_rfl) (fun _ _ _ h => h) (Or.inl ⟨by rfl, ?_⟩) (by assumption) ?_
        rotate_left
        · (intro wS hSw; (try dsimp only at hSw); go_simp <;> with_reducible rfl)
        try simp only [Act.put, List.setIfInBounds_toArray, List.set_cons_zero, List.set_cons_succ, Nat.zero_add]
        refine wpHd_take (i := 10) (v := ?_) (by kernel_rfl) (by simp only [List.getElem?_toArray, List.getElem?_cons_succ, List.getElem?_cons_zero] <;> rfl) (by kernel_rfl) (fun _ _ _ h => h) (Or.inl ⟨by rfl, ?_⟩) (by assumption) ?_
        rotate_left
        · (intro wS hSw; (try dsimp only at hSw); go_simp <;> with_reducible rfl)
        try simp only [Act.put, List.setIfInBounds_toArray, List.set_cons_zero, List.set_cons_succ, Nat.zero_add]
        refine wpHd_take (i := 11) (v := ?_) (by kernel_rfl) (by simp only [List.getElem?_toArray, List.getElem?_cons_succ, List.getElem?_cons_zero] <;> rfl) (by kernel_rfl) (fun _ _ _ h => h) (Or.inl ⟨by rfl, ?_⟩) (by assumption) ?_
        rotate_left
        · (intro wS hSw; (try dsimp only at hSw); go_simp <;> with_reducible rfl)
        try simp only [Act.put, List.setIfInBounds_toArray, List.set_cons_zero, List.set_cons_succ, Nat.zero_add]
        refine wpHd_take (i := 12) (v := ?_) (by kernel_rfl) (by simp only [List.getElem?_toArray, List.getElem?_cons_succ, List.getElem?_cons_zero] <;> rfl) (by kernel_rfl) (fun _ _ _ h => h) (Or.inl ⟨by rfl, ?_⟩) (by assumption) ?_
        rotate_left
        · (intro wS hSw; (try dsimp only at hSw); go_simp <;> with_reducible rfl)
        try simp only [Act.put, List.setIfInBounds_toArray, List.set_cons_zero, List.set_cons_succ, Nat.zero_add]
        refine wpHd_ready (rs := [13]) (by kernel_rfl) (by simp) ?_
        refine (RdyHd.cons (by simp only [List.getElem?_toArray, List.getElem?_cons_succ, List.getElem?_cons_zero] <;> rfl) (by decide) (fun K hK => ?_) RdyHd.nil)
        · go_simp
          have HS3_ := HS2.out.alloc 45 2 1 #[.slice none 0 0, .slice none 0 0] rfl (by decide)
          try simp only [List.cons_append, List.nil_append, List.set_cons_zero, List.set_cons_succ, List.map_cons, List.map_nil, List.getD_cons_zero, List.getD_cons_succ, World.size_alloc] at HS3_
          have HS3 := Lib.hid HS3_
          clear HS3_
          clear d4 d5 d8
          have d4 := HS3.out.cell (i := 2) rfl 4 _ rfl; have d5 := HS3.out.cell (i := 2) rfl 5 _ rfl; have d8 := HS3.out.cell (i := 2) rfl 8 _ rfl
          refine hK.out _ _ ?_ (fun hHeld => ?_)
          · exact ⟨d4, d5, d8⟩
          clear hK K
          try simp only [Act.put, List.setIfInBounds_toArray, List.set_cons_zero, List.set_cons_succ, Nat.zero_add]
          refine wpHd_take (i := 14) (v := ?_) (by kernel_rfl) (by simp only [List.getElem?_toArray, List.getElem?_cons_succ, List.getElem?_cons_zero] <;> rfl) (by kernel_rfl) (fun _ _ _ h => h) (Or.inl ⟨by rfl, ?_⟩) (by assumption) ?_
          rotate_left
          · (intro wS hSw; (try dsimp only at hSw); go_simp <;> with_reducible rfl)
          try simp only [Act.put, List.setIfInBounds_toArray, List.set_cons_zero, List.set_cons_succ, Nat.zero_add]
          refine wpHd_ready (rs := [15]) (by kernel_rfl) (by simp) ?_
          refine (RdyHd.cons (by simp only [List.getElem?_toArray, List.getElem?_cons_succ, List.getElem?_cons_zero] <;> rfl) (by decide) (fun K hK => ?_) RdyHd.nil)
          · have c0 := HS3.out.cell (i := 5) rfl 0 _ rfl; have f0 := HS3.out.frozen (i := 5) rfl 0; have c1 := HS3.out.cell (i := 5) rfl 1 _ rfl; have f1 := HS3.out.frozen (i := 5) rfl 1
            go_simp
            have HS4_ := HS2.out.alloc 45 2 1 #[.slice B1.sa B1.sn B1.sc, .slice B1.aa B1.an B1.ac] rfl (by decide)
            try simp only [List.cons_append, List.nil_append, List.set_cons_zero, List.set_cons_succ, List.map_cons, List.map_nil, List.getD_cons_zero, List.getD_cons_succ, World.size_alloc] at HS4_
            have HS4 := Lib.hid HS4_
            clear HS4_
            clear c0 f0 c1 f1 d4 d5 d8
            have d4 := HS4.out.cell (i := 2) rfl 4 _ rfl; have d5 := HS4.out.cell (i := 2) rfl 5 _ rfl; have d8 := HS4.out.cell (i := 2) rfl 8 _ rfl
            refine hK.out _ _ ?_ (fun hHeld => ?_)
            · exact ⟨d4, d5, d8⟩
            clear hK K
            try simp only [Act.put, List.setIfInBounds_toArray, List.set_cons_zero, List.set_cons_succ, Nat.zero_add]
            refine wpHd_done (by kernel_rfl) ?_
            simp only [List.drop_succ_cons, List.drop_zero]
            go_wp2_with fail
            refine NoPanic.normal ?_
            go_wp2_with fail
            go_meet
            exact ⟨w6.heap.size, gy, dy, ky, ey, po1, pn1, pc1, B1, rfl, rfl, rfl, ⟨hP1, hB1, hT1⟩, HS4.out.pick [0, 1, 2, 3, 4, 5] (by decide)⟩
      · go_simp
        have HS2_ := HS1.out.alloc 45 2 1 #[.slice none 0 0, .slice none 0 0] rfl (by decide)
        try simp only [List.cons_append, List.nil_append, List.set_cons_zero, List.set_cons_succ, List.map_cons, List.map_nil, List.getD_cons_zero, List.getD_cons_succ, World.size_alloc] at HS2_
        have HS2 := Lib.hid HS2_
        clear HS2_
        clear d4 d5 d8
        have d4 := HS2.out.cell (i := 2) rfl 4 _ rfl; have d5 := HS2.out.cell (i := 2) rfl 5 _ rfl; have d8 := HS2.out.cell (i := 2) rfl 8 _ rfl
        refine hK.out _ _ ?_ (fun hHeld => ?_)
        · exact ⟨d4, d5, d8⟩
        clear hK K
        try simp only [Act.put, List.setIfInBounds_toArray, List.set_cons_zero, List.set_cons_succ, Nat.zero_add]
        refine wpHd_ready (rs := [8]) (by kernel_rfl) (by simp) ?_
        refine (RdyHd.cons (by simp only [List.getElem?_toArray, List.getElem?_cons_succ, List.getElem?_cons_zero] <;> rfl) (by decide) (fun K hK => ?_) RdyHd.nil)
        · go_simp
          go_at_call 23
          have ca := pieces_any (HS2.out.isY (i := 0) rfl HOY.out hdy hey) ll HLL.out
          try simp only [Ar.v] at ca
          rw [HvP.out, HvS.out, HvA.out, HvE.out] at ca
          refine ca.mono ?_
          rintro e w6 ⟨po1, pn1, pc1, B1, rfl, h6, hP1, hB1, hT1⟩
          have HS3_ := HS2.out.add h6
          try simp only [List.cons_append, List.nil_append, List.set_cons_zero, List.set_cons_succ, List.map_cons, List.map_nil, List.getD_cons_zero, List.getD_cons_succ, World.size_alloc] at HS3_
          have HS3 := Lib.hid HS3_
          clear HS3_
          clear ca d4 d5 d8
          have d4 := HS3.out.cell (i := 2) rfl 4 _ rfl; have d5 := HS3.out.cell (i := 2) rfl 5 _ rfl; have d8 := HS3.out.cell (i := 2) rfl 8 _ rfl
          (try go_simp)
          (try simp only [Ar.v])
          refine hK.out _ _ ?_ (fun hHeld => ?_)
          · exact ⟨d4, d5, d8⟩
          clear hK K
          try simp only [Act.put, List.setIfInBounds_toArray, List.set_cons_zero, List.set_cons_succ, Nat.zero_add]
          refine wpHd_take (i := 9) (v := ?_) (by kernel_rfl) (by simp only [List.getElem?_toArray, List.getElem?_cons_succ, List.getElem?_cons_zero] <;> rfl) (by kernel_rfl) (fun _ _ _ h => h) (Or.inl ⟨by rfl, ?_⟩) (by assumption) ?_
          rotate_left
          · (intro wS hSw; (try dsimp only at hSw); go_simp <;> with_reducible rfl)
          try simp only [Act.put, List.setIfInBounds_toArray, List.set_cons_zero, List.set_cons_succ, Nat.zero_add]
          refine wpHd_take (i := 10) (v := ?_) (by kernel_rfl) (by simp only [List.getElem?_toArray, List.getElem?_cons_succ, List.getElem?_cons_zero] <;> rfl) (by kernel_rfl) (fun _ _ _ h => h) (Or.inl ⟨by rfl, ?_⟩) (by assumption) ?_
          rotate_left
          · (intro wS hSw; (try dsimp only at hSw); go_simp <;> with_reducible rfl)
          try simp only [Act.put, List.setIfInBounds_toArray, List.set_cons_zero, List.set_cons_succ, Nat.zero_add]
          refine wpHd_take (i := 11) (v := ?_) (by kernel_rfl) (by simp only [List.getElem?_toArray, List.getElem?_cons_succ, List.getElem?_cons_zero] <;> rfl) (by kernel_rfl) (fun _ _ _ h => h) (Or.inl ⟨by rfl, ?_⟩) (by assumption) ?_
          rotate_left
          · (intro wS hSw; (try dsimp only at hSw); go_simp <;> with_reducible rfl)
          try simp only [Act.put, List.setIfInBounds_toArray, List.set_cons_zero, List.set_cons_succ, Nat.zero_add]
          refine wpHd_take (i := 12) (v := ?_) (by kernel_rfl) (by simp only [List.getElem?_toArray, List.getElem?_cons_succ, List.getElem?_cons_zero] <;> rfl) (by kernel_rfl) (fun _ _ _ h => h) (Or.inl ⟨by rfl, ?_⟩) (by assumption) ?_
          rotate_left
          · (intro wS hSw; (try dsimp only at hSw); go_simp <;> with_reducible rfl)
          try simp only [Act.put, List.setIfInBounds_toArray, List.set_cons_zero, List.set_cons_succ, Nat.zero_add]
          refine wpHd_take (i := 14) (v := ?_) (by kernel_rfl) (by simp only [List.getElem?_toArray, List.getElem?_cons_succ, List.getElem?_cons_zero] <;> rfl) (by kernel_rfl) (fun _ _ _ h => h) (Or.inl ⟨by rfl, ?_⟩) (by assumption) ?_
          rotate_left
          · (intro wS hSw; (try dsimp only at hSw); go_simp <;> with_reducible rfl)
          try simp only [Act.put, List.setIfInBounds_toArray, List.set_cons_zero, List.set_cons_succ, Nat.zero_add]
          refine wpHd_ready (rs := [15]) (by kernel_rfl) (by simp) ?_
          refine (RdyHd.cons (by simp only [List.getElem?_toArray, List.getElem?_cons_succ, List.getElem?_cons_zero] <;> rfl) (by decide) (fun K hK => ?_) RdyHd.nil)
          · have c0 := HS3.out.cell (i := 3) rfl 0 _ rfl; have f0 := HS3.out.frozen (i := 3) rfl 0; have c1 := HS3.out.cell (i := 3) rfl 1 _ rfl; have f1 := HS3.out.frozen (i := 3) rfl 1
            go_simp
            have HS4_ := ((HS3.out.put (i := 3) rfl 0 (.slice B1.sa B1.sn B1.sc)).put (i := 3) rfl 1 (.slice B1.aa B1.an B1.ac))
            try simp only [List.cons_append, List.nil_append, List.set_cons_zero, List.set_cons_succ, List.map_cons, List.map_nil, List.getD_cons_zero, List.getD_cons_succ, World.size_alloc] at HS4_
            have HS4 := Lib.hid HS4_
            clear HS4_
            clear c0 f0 c1 f1 d4 d5 d8
            have d4 := HS4.out.cell (i := 2) rfl 4 _ rfl; have d5 := HS4.out.cell (i := 2) rfl 5 _ rfl; have d8 := HS4.out.cell (i := 2) rfl 8 _ rfl
            refine hK.out _ _ ?_ (fun hHeld => ?_)
            · exact ⟨d4, d5, d8⟩
            clear hK K
            try simp only [Act.put, List.setIfInBounds_toArray, List.set_cons_zero, List.set_cons_succ, Nat.zero_add]
            refine wpHd_done (by kernel_rfl) ?_
            simp only [List.drop_succ_cons, List.drop_zero]
            go_wp2_with fail
            refine NoPanic.normal ?_
            go_wp2_with fail
            go_meet
            exact ⟨w5.heap.size, gy, dy, ky, ey, po1, pn1, pc1, B1, rfl, rfl, rfl, ⟨hP1, hB1, hT1⟩, HS4.out.pick [0, 1, 2, 4, 5, 3] (by decide)⟩
    · go_simp
      have HS1_ := (HSA.out.alloc 45 2 1 #[.slice none 0 0, .slice none 0 0] rfl (by decide)).via (adrew1 _)
      try simp only [List.cons_append, List.nil_append, List.set_cons_zero, List.set_cons_succ, List.map_cons, List.map_nil, List.getD_cons_zero, List.getD_cons_succ, World.size_alloc] at HS1_
      have HS1 := Lib.hid HS1_
      clear HS1_
      clear d4 d5 d8
      have d4 := HS1.out.cell (i := 2) rfl 4 _ rfl; have d5 := HS1.out.cell (i := 2) rfl 5 _ rfl; have d8 := HS1.out.cell (i := 2) rfl 8 _ rfl
      refine hK.out _ _ ?_ (fun hHeld => ?_)
      · exact ⟨d4, d5, d8⟩
      clear hK K
      try simp only [Act.put, List.setIfInBounds_toArray, List.set_cons_zero, List.set_cons_succ, Nat.zero_add]
      refine wpHd_ready (rs := [5]) (by kernel_rfl) (by simp) ?_
      refine (RdyHd.cons (by simp only [List.getElem?_toArray, List.getElem?_cons_succ, List.getElem?_cons_zero] <;> rfl) (by decide) (fun K hK => ?_) RdyHd.nil)
      · go_simp
        go_at_call 35
        have ca := HS1.out.arrayY (i := 0) rfl HOY.out
        simp only [Ar.v] at ca
        refine ca.mono ?_
        rintro e w5 ⟨gy, dy, ky, ey, rfl, hdy, hey, h5⟩
        simp only [List.set_cons_zero] at h5
        have HS2 := Lib.hid h5
        clear ca h5 d4 d5 d8
        have d4 := HS2.out.cell (i := 2) rfl 4 _ rfl; have d5 := HS2.out.cell (i := 2) rfl 5 _ rfl; have d8 := HS2.out.cell (i := 2) rfl 8 _ rfl
        (try go_simp)
        refine hK.out _ _ ?_ (fun hHeld => ?_)
        · exact ⟨d4, d5, d8⟩
        clear hK K
        try simp only [Act.put, List.setIfInBounds_toArray, List.set_cons_zero, List.set_cons_succ, Nat.zero_add]
        refine wpHd_ready (rs := [8]) (by kernel_rfl) (by simp) ?_
        refine (RdyHd.cons (by simp only [List.getElem?_toArray, List.getElem?_cons_succ, List.getElem?_cons_zero] <;> rfl) (by decide) (fun K hK => ?_) RdyHd.nil)
        · go_simp
          go_at_call 23
          have ca := pieces_any (HS2.out.isY (i := 0) rfl HOY.out hdy hey) ll HLL.out
          try simp only [Ar.v] at ca
          rw [HvP.out, HvS.out, HvA.out, HvE.out] at ca
          refine ca.mono ?_
          rintro e w6 ⟨po1, pn1, pc1, B1, rfl, h6, hP1, hB1, hT1⟩
          have HS3_ := HS2.out.add h6
          try simp only [List.cons_append, List.nil_append, List.set_cons_zero, List.set_cons_succ, List.map_cons, List.map_nil, List.getD_cons_zero, List.getD_cons_succ, World.size_alloc] at HS3_
          have HS3 := Lib.hid HS3_
          clear HS3_
          clear ca d4 d5 d8
          have d4 := HS3.out.cell (i := 2) rfl 4 _ rfl; have d5 := HS3.out.cell (i := 2) rfl 5 _ rfl; have d8 := HS3.out.cell (i := 2) rfl 8 _ rfl
          (try go_simp)
          (try simp only [Ar.v])
          refine hK.out _ _ ?_ (fun hHeld => ?_)
          · exact ⟨d4, d5, d8⟩
          clear hK K
          try simp only [Act.put, List.setIfInBounds_toArray, List.set_cons_zero, List.set_cons_succ, Nat.zero_add]
          refine wpHd_take (i := 9) (v := ?_) (by kernel_rfl) (by simp only [List.getElem?_toArray, List.getElem?_cons_succ, List.getElem?_cons_zero] <;> rfl) (by kernel_rfl) (fun _ _ _ h => h) (Or.inl ⟨by rfl, ?_⟩) (by assumption) ?_
          rotate_left
          · (intro wS hSw; (try dsimp only at hSw); go_simp <;> with_reducible rfl)
          try simp only [Act.put, List.setIfInBounds_toArray, List.set_cons_zero, List.set_cons_succ, Nat.zero_add]
          refine wpHd_take (i := 10) (v := ?_) (by kernel_rfl) (by simp only [List.getElem?_toArray, List.getElem?_cons_succ, List.getElem?_cons_zero] <;> rfl) (by kernel_rfl) (fun _ _ _ h => h) (Or.inl ⟨by rfl, ?_⟩) (by assumption) ?_
          rotate_left
          · (intro wS hSw; (try dsimp only at hSw); go_simp <;> with_reducible rfl)
          try simp only [Act.put, List.setIfInBounds_toArray, List.set_cons_zero, List.set_cons_succ, Nat.zero_add]
          refine wpHd_take (i := 11) (v := ?_) (by kernel_rfl) (by simp only [List.getElem?_toArray, List.getElem?_cons_succ, List.getElem?_cons_zero] <;> rfl) (by kernel_rfl) (fun _ _ _ h => h) (Or.inl ⟨by rfl, ?_⟩) (by assumption) ?_
          rotate_left
          · (intro wS hSw; (try dsimp only at hSw); go_simp <;> with_reducible rfl)
          try simp only [Act.put, List.setIfInBounds_toArray, List.set_cons_zero, List.set_cons_succ, Nat.zero_add]
          refine wpHd_take (i := 12) (v := ?_) (by kernel_rfl) (by simp only [List.getElem?_toArray, List.getElem?_cons_succ, List.getElem?_cons_zero] <;> rfl) (by kernel_rfl) (fun _ _ _ h => h) (Or.inl ⟨by rfl, ?_⟩) (by assumption) ?_
          rotate_left
          · (intro wS hSw; (try dsimp only at hSw); go_simp <;> with_reducible rfl)
          try simp only [Act.put, List.setIfInBounds_toArray, List.set_cons_zero, List.set_cons_succ, Nat.zero_add]
          refine wpHd_take (i := 14) (v := ?_) (by kernel_rfl) (by simp only [List.getElem?_toArray, List.getElem?_cons_succ, List.getElem?_cons_zero] <;> rfl) (by kernel_rfl) (fun _ _ _ h => h) (Or.inl ⟨by rfl, ?_⟩) (by assumption) ?_
          rotate_left
          · (intro wS hSw; (try dsimp only at hSw); go_simp <;> with_reducible rfl)
          try simp only [Act.put, List.setIfInBounds_toArray, List.set_cons_zero, List.set_cons_succ, Nat.zero_add]
          refine wpHd_ready (rs := [15]) (by kernel_rfl) (by simp) ?_
          refine (RdyHd.cons (by simp only [List.getElem?_toArray, List.getElem?_cons_succ, List.getElem?_cons_zero] <;> rfl) (by decide) (fun K hK => ?_) RdyHd.nil)
          · have c0 := HS3.out.cell (i := 3) rfl 0 _ rfl; have f0 := HS3.out.frozen (i := 3) rfl 0; have c1 := HS3.out.cell (i := 3) rfl 1 _ rfl; have f1 := HS3.out.frozen (i := 3) rfl 1
            go_simp
            have HS4_ := ((HS3.out.put (i := 3) rfl 0 (.slice B1.sa B1.sn B1.sc)).put (i := 3) rfl 1 (.slice B1.aa B1.an B1.ac))
            try simp only [List.cons_append, List.nil_append, List.set_cons_zero, List.set_cons_succ, List.map_cons, List.map_nil, List.getD_cons_zero, List.getD_cons_succ, World.size_alloc] at HS4_
            have HS4 := Lib.hid HS4_
            clear HS4_
            clear c0 f0 c1 f1 d4 d5 d8
            have d4 := HS4.out.cell (i := 2) rfl 4 _ rfl; have d5 := HS4.out.cell (i := 2) rfl 5 _ rfl; have d8 := HS4.out.cell (i := 2) rfl 8 _ rfl
            refine hK.out _ _ ?_ (fun hHeld => ?_)
            · exact ⟨d4, d5, d8⟩
            clear hK K
            try simp only [Act.put, List.setIfInBounds_toArray, List.set_cons_zero, List.set_cons_succ, Nat.zero_add]
            refine wpHd_done (by kernel_rfl) ?_
            simp only [List.drop_succ_cons, List.drop_zero]
            go_wp2_with fail
            refine NoPanic.normal ?_
            go_wp2_with fail
            go_meet
            exact ⟨w3.heap.size, gy, dy, ky, ey, po1, pn1, pc1, B1, rfl, rfl, rfl, ⟨hP1, hB1, hT1⟩, HS4.out.pick [0, 1, 2, 4, 5, 3] (by decide)⟩
  case rest =>
    obtain ⟨gb, gy, dy, ky, ey, po1, pn1, pc1, B1, rfl, rfl, rfl, HF1, HQ0⟩ := hcut
    obtain ⟨w10, hU⟩ : ∃ z : World, z = wc := ⟨_, rfl⟩
    subst hU
    clear d4 d5 d8 HSA HS0 H1
    go_upto_region 20 with fail
    have HK0_ := HQ0.out.via (adrew1 w10)
    try simp only [List.cons_append, List.nil_append, List.set_cons_zero, List.set_cons_succ, List.map_cons, List.map_nil, List.getD_cons_zero, List.getD_cons_succ, World.size_alloc] at HK0_
    have HK0 := Lib.hid HK0_
    clear HK0_
    have d4 := HK0.out.cell (i := 2) rfl 4 _ rfl; have d5 := HK0.out.cell (i := 2) rfl 5 _ rfl
    refine wp_region_noPanic ?_
    refine wp_region_hd (S := (fun wS => wS.cell? ⟨b, 4, none⟩ = some (.slice y1 y2 y3) ∧ wS.cell? ⟨b, 5, none⟩ = some (.slice y4 y5 y6))) 6 (by kernel_rfl) (by kernel_rfl) ?_ (fun hHeld => ?_)
    · exact ⟨d4, d5⟩
    refine wpHd_take (i := 0) (v := ?_) (by kernel_rfl) (by simp only [List.getElem?_toArray, List.getElem?_cons_succ, List.getElem?_cons_zero] <;> rfl) (by kernel_rfl) (fun _ _ _ h => h) (Or.inl ⟨by rfl, ?_⟩) (by assumption) ?_
    rotate_left
    · (intro wS hSw; (try dsimp only at hSw); go_simp <;> with_reducible rfl)
    try simp only [Act.put, List.setIfInBounds_toArray, List.set_cons_zero, List.set_cons_succ, Nat.zero_add]
    refine wpHd_take (i := 1) (v := ?_) (by kernel_rfl) (by simp only [List.getElem?_toArray, List.getElem?_cons_succ, List.getElem?_cons_zero] <;> rfl) (by kernel_rfl) (fun _ _ _ h => h) (Or.inl ⟨by rfl, ?_⟩) (by assumption) ?_
    rotate_left
    · (intro wS hSw; (try dsimp only at hSw); go_simp <;> with_reducible rfl)
    try simp only [Act.put, List.setIfInBounds_toArray, List.set_cons_zero, List.set_cons_succ, Nat.zero_add]
    refine wpHd_take (i := 2) (v := ?_) (by kernel_rfl) (by simp only [List.getElem?_toArray, List.getElem?_cons_succ, List.getElem?_cons_zero] <;> rfl) (by kernel_rfl) (fun _ _ _ h => h) (Or.inl ⟨by rfl, ?_⟩) (by assumption) ?_
    rotate_left
    · (intro wS hSw; (try dsimp only at hSw); go_simp <;> with_reducible rfl)
    try simp only [Act.put, List.setIfInBounds_toArray, List.set_cons_zero, List.set_cons_succ, Nat.zero_add]
    refine wpHd_take (i := 3) (v := ?_) (by kernel_rfl) (by simp only [List.getElem?_toArray, List.getElem?_cons_succ, List.getElem?_cons_zero] <;> rfl) (by kernel_rfl) (fun _ _ _ h => h) (Or.inl ⟨by rfl, ?_⟩) (by assumption) ?_
    rotate_left
    · (intro wS hSw; (try dsimp only at hSw); go_simp <;> with_reducible rfl)
    try simp only [Act.put, List.setIfInBounds_toArray, List.set_cons_zero, List.set_cons_succ, Nat.zero_add]
    refine wpHd_take (i := 4) (v := ?_) (by kernel_rfl) (by simp only [List.getElem?_toArray, List.getElem?_cons_succ, List.getElem?_cons_zero] <;> rfl) (by kernel_rfl) (fun _ _ _ h => h) (Or.inl ⟨by rfl, ?_⟩) (by assumption) ?_
    rotate_left
    · (intro wS hSw; (try dsimp only at hSw); go_simp <;> with_reducible rfl)
    try simp only [Act.put, List.setIfInBounds_toArray, List.set_cons_zero, List.set_cons_succ, Nat.zero_add]
    refine wpHd_ready (rs := [5]) (by kernel_rfl) (by simp) ?_
    refine (RdyHd.cons (by simp only [List.getElem?_toArray, List.getElem?_cons_succ, List.getElem?_cons_zero] <;> rfl) (by decide) (fun K hK => ?_) RdyHd.nil)
    · go_simp
      go_at_call 36
      have ca := HK0.out.keptY (i := 0) rfl HOY.out
      simp only [Ar.v] at ca
      refine ca.mono ?_
      rintro e w11 ⟨rfl, h5⟩
      have HQ1_ := h5
      try simp only [List.cons_append, List.nil_append, List.set_cons_zero, List.set_cons_succ, List.map_cons, List.map_nil, List.getD_cons_zero, List.getD_cons_succ, World.size_alloc] at HQ1_
      have HQ1 := Lib.hid HQ1_
      clear HQ1_
      clear ca h5 d4 d5
      have d4 := HQ1.out.cell (i := 2) rfl 4 _ rfl; have d5 := HQ1.out.cell (i := 2) rfl 5 _ rfl
      (try go_simp)
      refine hK.out _ _ ?_ (fun hHeld => ?_)
      · exact ⟨d4, d5⟩
      clear hK K
      try simp only [Act.put, List.setIfInBounds_toArray, List.set_cons_zero, List.set_cons_succ, Nat.zero_add]
      refine wpHd_done (by kernel_rfl) ?_
      simp only [List.drop_succ_cons, List.drop_zero]
      go_wp2_with fail
      refine NoPanic.normal ?_
      clear d4 d5 HK0
      skip
      have d4 := HQ1.out.cell (i := 2) rfl 4 _ rfl; have d5 := HQ1.out.cell (i := 2) rfl 5 _ rfl; have d8 := HQ1.out.cell (i := 2) rfl 8 _ rfl
      have cr := rpieces_any (HOY.out.below HQ1.out.belowN (Nat.le_refl _)) ll HLL.out
      try simp only [Ar.v] at cr
      rw [HvP.out, HvS.out, HvA.out, HvE.out] at cr
      have CR := Lib.hid cr
      clear cr
      go_wp2_with fail
      refine CR.out.mono ?_; rintro e w20 ⟨po2, pn2, pc2, B2, rfl, h6, hP2, hB2, hT2⟩
      obtain ⟨WE, HWE⟩ : ∃ z, Hid (w20.alloc (.cells #[.slice B2.sa B2.sn B2.sc, .slice B2.aa B2.an B2.ac] 45) = z) := ⟨_, rfl⟩
      have h7 := (HQ1.out.add h6).alloc 45 2 1 #[.slice B2.sa B2.sn B2.sc, .slice B2.aa B2.an B2.ac] rfl (by decide)
      obtain ⟨b2, HB2⟩ : ∃ z, Hid (w20.heap.size = z) := ⟨_, rfl⟩
      rw [HWE.out, HB2.out] at h7
      have HE_ := h7
      try simp only [List.cons_append, List.nil_append, List.set_cons_zero, List.set_cons_succ, List.map_cons, List.map_nil, List.getD_cons_zero, List.getD_cons_succ, World.size_alloc] at HE_
      have HE := Lib.hid HE_
      clear HE_
      clear h7 CR d4 d5 d8
      have HF2 : Hid (vP.length = pn2 ∧ B2.s = vS ∧ B2.a = vA) := ⟨hP2, hB2, hT2⟩
      try simp only [Ar.v]
      go_upto_region 22 with fail
      rw [HWE.out, HB2.out]
      have p0 := HE.out.cell (i := 5) rfl 0 _ rfl
      have q0 := HE.out.cell (i := 8) rfl 0 _ rfl
      have p1 := HE.out.cell (i := 5) rfl 1 _ rfl
      have q1 := HE.out.cell (i := 8) rfl 1 _ rfl
      have ce := eqpieces4_any (HE.out.pcs (i := 3) rfl HF1.out.1) (HE.out.pcs (i := 6) rfl HF2.out.1)
      rw [decide_eq_true rfl] at ce
      have CE0 := Lib.hid ce
      clear ce
      go_wp2_with fail
      refine CE0.out.mono ?_; rintro e w30 ⟨rfl, hb9⟩
      have HE0_ := HE.out.via hb9
      try simp only [List.cons_append, List.nil_append, List.set_cons_zero, List.set_cons_succ, List.map_cons, List.map_nil, List.getD_cons_zero, List.getD_cons_succ, World.size_alloc] at HE0_
      have HE0 := Lib.hid HE0_
      clear HE0_
      clear hb9 p0 q0 p1 q1
      have p0 := HE0.out.cell (i := 5) rfl 0 _ rfl
      have q0 := HE0.out.cell (i := 8) rfl 0 _ rfl
      have p1 := HE0.out.cell (i := 5) rfl 1 _ rfl
      have q1 := HE0.out.cell (i := 8) rfl 1 _ rfl
      have ce := eq4_any (HE0.out.isA (i := 4) rfl) (HE0.out.isA (i := 7) rfl)
      rw [decide_eq_true (And.intro (HF1.out.2.1.trans HF2.out.2.1.symm) (HF1.out.2.2.trans HF2.out.2.2.symm))] at ce
      simp only [Ar.v] at ce
      have CE1 := Lib.hid ce
      clear ce
      go_wp2_with fail
      refine CE1.out.mono ?_; rintro e w31 ⟨rfl, hb9⟩
      have HE1_ := HE0.out.via hb9
      try simp only [List.cons_append, List.nil_append, List.set_cons_zero, List.set_cons_succ, List.map_cons, List.map_nil, List.getD_cons_zero, List.getD_cons_succ, World.size_alloc] at HE1_
      have HE1 := Lib.hid HE1_
      clear HE1_
      clear hb9 p0 q0 p1 q1
      have HF : Hid (PlaysP w0 hb G (.returned (.bool true)) w31) := ⟨rfl, HE1.out.pick [0, 1] (by decide)⟩
      go_wp2
      exact bodyPost_ret (v := .bool true) (by simp [results, Try.results9, go_sem, *]) rfl HF.out
set_option maxRecDepth 100000 in
set_option maxHeartbeats 6400000 in
theorem cplays_5 {w0 w : World} {hb : Nat} {G : Pt} (H : Sp Non w0 w [Pt.hands hb none none none none, G]) {o : OpC} (hO : o.Is w0) (hk : o.k = 5) : Calls Try.prog 9 #[.pointer (some ⟨hb, 0, none⟩), o.v] w (PlaysP w0 hb G) := by
  obtain ⟨kk, on, ⟨x1, x2, x3, x4, x5, x6, xs, xt⟩, ⟨y1, y2, y3, y4, y5, y6, ys, yt⟩, mm, nn, ll, po, pn, pc, pf, qo, qn, qc, qs, tl⟩ := o
  obtain ⟨hX, hY, hF, hL, hM, hN, hLL, hBG⟩ := hO
  simp only at hk hX hY hF hL hM hN hLL hBG
  subst hk
  have HOX := Lib.hid hX
  have HOY := Lib.hid hY
  have HOF := Lib.hid hF
  have HOL := Lib.hid hL
  have HM := Lib.hid hM
  have HN := Lib.hid hN
  have HLL := Lib.hid hLL
  have HBG := Lib.hid hBG
  simp only [OpC.v]
  obtain ⟨b, HB⟩ : ∃ z, Hid (w.heap.size = z) := ⟨_, rfl⟩
  obtain ⟨W, HW⟩ : ∃ z, Hid (w.alloc (.cells #[.int .i64 5, .int .i64 on, .slice x1 x2 x3, .slice x4 x5 x6, .slice y1 y2 y3, .slice y4 y5 y6, .int .i64 mm, .int .i64 nn, .int .i64 ll, .slice po pn pc, .slice qo qn qc, .bool tl] 47) = z) := ⟨_, rfl⟩
  have h1 := H.alloc 47 12 1 #[.int .i64 5, .int .i64 on, .slice x1 x2 x3, .slice x4 x5 x6, .slice y1 y2 y3, .slice y4 y5 y6, .int .i64 mm, .int .i64 nn, .int .i64 ll, .slice po pn pc, .slice qo qn qc, .bool tl] rfl (by decide)
  rw [HW.out, HB.out] at h1
  have H1_ := h1
  try simp only [List.cons_append, List.nil_append, List.set_cons_zero, List.set_cons_succ, List.map_cons, List.map_nil, List.getD_cons_zero, List.getD_cons_succ, World.size_alloc] at H1_
  have H1 := Lib.hid H1_
  clear H1_
  clear h1 H hX hY hF hL hM hN hLL hBG
  obtain ⟨vS, HvS⟩ : ∃ z, Hid (jnS pf (qs.map Ar.sa2) = z) := ⟨_, rfl⟩
  obtain ⟨vA, HvA⟩ : ∃ z, Hid (jnA pf (qs.map Ar.sa2) = z) := ⟨_, rfl⟩
  obtain ⟨vE, HvE⟩ : ∃ z, Hid (jnE pf (qs.map Ar.sa2) = z) := ⟨_, rfl⟩
  have x0 := H1.out.cell (i := 2) rfl 0 _ rfl
  go_enter Try.func9, Try.ntmps9
  go_upto_region 1 with fail
  rw [HW.out, HB.out]
  go_upto_region 24 with fail
  obtain ⟨w3, Hw3⟩ : ∃ z, Hid (W = z) := ⟨_, rfl⟩
  rw [Hw3.out] at H1 ⊢
  have HSA := H1
  clear x0
  have HS0_ := HSA.out.via (adrew1 w3)
  try simp only [List.cons_append, List.nil_append, List.set_cons_zero, List.set_cons_succ, List.map_cons, List.map_nil, List.getD_cons_zero, List.getD_cons_succ, World.size_alloc] at HS0_
  have HS0 := Lib.hid HS0_
  clear HS0_
  have d9 := HS0.out.cell (i := 2) rfl 9 _ rfl; have d10 := HS0.out.cell (i := 2) rfl 10 _ rfl
  go_cut [28, 29] from 232 to 245 (fun (v28 v29 : Value) (wx : World) => ∃ (gb : Nat) (gf df gl dl : Nat) (B1 : Ar), v28 = .pointer (some ⟨gb, 0, none⟩) ∧ v29 = .int .i64 vE ∧ Hid (B1.s = vS ∧ B1.a = vA) ∧ Hid (Sp Non w0 wx [Pt.hands hb none none (some (laidF pf gf df)) (some (qs, gl, dl)), G, Pt.row ⟨47, 12, some ⟨b, 0, none⟩, 1, 1, [.int .i64 5, .int .i64 on, .slice x1 x2 x3, .slice x4 x5 x6, .slice y1 y2 y3, .slice y4 y5 y6, .int .i64 mm, .int .i64 nn, .int .i64 ll, .slice po pn pc, .slice qo qn qc, .bool tl]⟩, Pt.arr B1, Pt.row ⟨45, 2, some ⟨gb, 0, none⟩, 1, 1, [.slice B1.sa B1.sn B1.sc, .slice B1.aa B1.an B1.ac]⟩]))
  case first =>
    go_upto_region 24 with fail
    refine wp_region_noPanic ?_
    refine wp_region_hd (S := (fun wS => wS.cell? ⟨b, 9, none⟩ = some (.slice po pn pc) ∧ wS.cell? ⟨b, 10, none⟩ = some (.slice qo qn qc))) 16 (by kernel_rfl) (by kernel_rfl) ?_ (fun hHeld => ?_)
    · exact ⟨d9, d10⟩
    refine wpHd_take (i := 0) (v := ?_) (by kernel_rfl) (by simp only [List.getElem?_toArray, List.getElem?_cons_succ, List.getElem?_cons_zero] <;> rfl) (by kernel_rfl) (fun _ _ _ h => h) (Or.inl ⟨by rfl, ?_⟩) (by assumption) ?_
    rotate_left
    · (intro wS hSw; (try dsimp only at hSw); go_simp <;> with_reducible rfl)
    try simp only [Act.put, List.setIfInBounds_toArray, List.set_cons_zero, List.set_cons_succ, Nat.zero_add]
    refine wpHd_take (i := 1) (v := ?_) (by kernel_rfl) (by simp only [List.getElem?_toArray, List.getElem?_cons_succ, List.getElem?_cons_zero] <;> rfl) (by kernel_rfl) (fun _ _ _ h => h) (Or.inl ⟨by rfl, ?_⟩) (by assumption) ?_
    rotate_left
    · (intro wS hSw; (try dsimp only at hSw); go_simp <;> with_reducible rfl)
    try simp only [Act.put, List.setIfInBounds_toArray, List.set_cons_zero, List.set_cons_succ, Nat.zero_add]
    refine wpHd_take (i := 2) (v := ?_) (by kernel_rfl) (by simp only [List.getElem?_toArray, List.getElem?_cons_succ, List.getElem?_cons_zero] <;> rfl) (by kernel_rfl) (fun _ _ _ h => h) (Or.inl ⟨by rfl, ?_⟩) (by assumption) ?_
    rotate_left
    · (intro wS hSw; (try dsimp only at hSw); go_simp <;> with_reducible rfl)
    try simp only [Act.put, List.setIfInBounds_toArray, List.set_cons_zero, List.set_cons_succ, Nat.zero_add]
    refine wpHd_take (i := 3) (v := ?_) (by kernel_rfl) (by simp only [List.getElem?_toArray, List.getElem?_cons_succ, List.getElem?_cons_zero] <;> rfl) (by kernel_rfl) (fun _ _ _ h => h) (Or.inl ⟨by rfl, ?_⟩) (by assumption) ?_
    rotate_left
    · (intro wS hSw; (try dsimp only at hSw); go_simp <;> with_reducible rfl)
    try simp only [Act.put, List.setIfInBounds_toArray, List.set_cons_zero, List.set_cons_succ, Nat.zero_add]
    refine wpHd_take (i := 4) (v := ?_) (by kernel_rfl) (by simp only [List.getElem?_toArray, List.getElem?_cons_succ, List.getElem?_cons_zero] <;> rfl) (by kernel_rfl) (fun _ _ _ h => h) (Or.inl ⟨by rfl, ?_⟩) (by assumption) ?_
    rotate_left
    · (intro wS hSw; (try dsimp only at hSw); go_simp <;> with_reducible rfl)
    try simp only [Act.put, List.setIfInBounds_toArray, List.set_cons_zero, List.set_cons_succ, Nat.zero_add]
    refine wpHd_take (i := 6) (v := ?_) (by kernel_rfl) (by simp only [List.getElem?_toArray, List.getElem?_cons_succ, List.getElem?_cons_zero] <;> rfl) (by kernel_rfl) (fun _ _ _ h => h) (Or.inl ⟨by rfl, ?_⟩) (by assumption) ?_
    rotate_left
    · (intro wS hSw; (try dsimp only at hSw); go_simp <;> with_reducible rfl)
    try simp only [Act.put, List.setIfInBounds_toArray, List.set_cons_zero, List.set_cons_succ, Nat.zero_add]
    refine wpHd_take (i := 7) (v := ?_) (by kernel_rfl) (by simp only [List.getElem?_toArray, List.getElem?_cons_succ, List.getElem?_cons_zero] <;> rfl) (by kernel_rfl) (fun _ _ _ h => h) (Or.inl ⟨by rfl, ?_⟩) (by assumption) ?_
    rotate_left
    · (intro wS hSw; (try dsimp only at hSw); go_simp <;> with_reducible rfl)
    try simp only [Act.put, List.setIfInBounds_toArray, List.set_cons_zero, List.set_cons_succ, Nat.zero_add]
    refine wpHd_take (i := 8) (v := ?_) (by kernel_rfl) (by simp only [List.getElem?_toArray, List.getElem?_cons_succ, List.getElem?_cons_zero] <;> rfl) (by kernel_rfl) (fun _ _ _ h => h) (Or.inl ⟨by rfl, ?_⟩) (by assumption) ?_
    rotate_left
    · (intro wS hSw; (try dsimp only at hSw); go_simp <;> with_reducible rfl)
    try simp only [Act.put, List.setIfInBounds_toArray, List.set_cons_zero, List.set_cons_succ, Nat.zero_add]
    refine wpHd_ready (rs := [5, 14]) (by kernel_rfl) (by simp) ?_
    refine (RdyHd.cons (by simp only [List.getElem?_toArray, List.getElem?_cons_succ, List.getElem?_cons_zero] <;> rfl) (by decide) (fun K hK => ?_) (RdyHd.cons (by simp only [List.getElem?_toArray, List.getElem?_cons_succ, List.getElem?_cons_zero] <;> rfl) (by decide) (fun K hK => ?_) RdyHd.nil))
    · go_simp
      go_at_call 32
      have ca := HS0.out.intsF (i := 0) rfl HOF.out
      refine ca.mono ?_
      rintro e w5 ⟨gf, df, rfl, hdf, h5⟩
      simp only [List.set_cons_zero] at h5
      have HS1 := Lib.hid h5
      clear ca h5 d9 d10
      have d9 := HS1.out.cell (i := 2) rfl 9 _ rfl; have d10 := HS1.out.cell (i := 2) rfl 10 _ rfl
      (try go_simp)
      refine hK.out _ _ ?_ (fun hHeld => ?_)
      · exact ⟨d9, d10⟩
      clear hK K
      try simp only [Act.put, List.setIfInBounds_toArray, List.set_cons_zero, List.set_cons_succ, Nat.zero_add]
      refine wpHd_ready (rs := [9, 14]) (by kernel_rfl) (by simp) ?_
      refine (RdyHd.cons (by simp only [List.getElem?_toArray, List.getElem?_cons_succ, List.getElem?_cons_zero] <;> rfl) (by decide) (fun K hK => ?_) (RdyHd.cons (by simp only [List.getElem?_toArray, List.getElem?_cons_succ, List.getElem?_cons_zero] <;> rfl) (by decide) (fun K hK => ?_) RdyHd.nil))
      · go_simp
        go_at_call 46
        have ca := HS1.out.listC (i := 0) rfl HOL.out HBG.out
        refine ca.mono ?_
        rintro e w6 ⟨gl, dl, rfl, h5⟩
        simp only [List.set_cons_zero] at h5
        have HS2 := Lib.hid h5
        clear ca h5 d9 d10
        have d9 := HS2.out.cell (i := 2) rfl 9 _ rfl; have d10 := HS2.out.cell (i := 2) rfl 10 _ rfl
        (try go_simp)
        refine hK.out _ _ ?_ (fun hHeld => ?_)
        · exact ⟨d9, d10⟩
        clear hK K
        try simp only [Act.put, List.setIfInBounds_toArray, List.set_cons_zero, List.set_cons_succ, Nat.zero_add]
        refine wpHd_ready (rs := [10, 14]) (by kernel_rfl) (by simp) ?_
        refine (RdyHd.cons (by simp only [List.getElem?_toArray, List.getElem?_cons_succ, List.getElem?_cons_zero] <;> rfl) (by decide) (fun K hK => ?_) (RdyHd.cons (by simp only [List.getElem?_toArray, List.getElem?_cons_succ, List.getElem?_cons_zero] <;> rfl) (by decide) (fun K hK => ?_) RdyHd.nil))
        · go_simp
          go_at_call 21
          obtain ⟨qb, hql, hqb⟩ := HS2.out.arsL (i := 0) rfl HOL.out
          have ca := join_any (HS2.out.isF (i := 0) rfl HOF.out hdf) hqb
          try simp only [Ar.v] at ca
          rw [hql] at ca
          rw [HvS.out, HvA.out, HvE.out] at ca
          refine ca.mono ?_
          rintro e w7 ⟨B1, rfl, hI6, hB1, hT1, hO6, hb6⟩
          have HS3_ := HS2.out.arrNew hI6 hO6 hb6
          try simp only [List.cons_append, List.nil_append, List.set_cons_zero, List.set_cons_succ, List.map_cons, List.map_nil, List.getD_cons_zero, List.getD_cons_succ, World.size_alloc] at HS3_
          have HS3 := Lib.hid HS3_
          clear HS3_
          clear ca d9 d10
          have d9 := HS3.out.cell (i := 2) rfl 9 _ rfl; have d10 := HS3.out.cell (i := 2) rfl 10 _ rfl
          (try go_simp)
          (try simp only [Ar.v])
          refine hK.out _ _ ?_ (fun hHeld => ?_)
          · exact ⟨d9, d10⟩
          clear hK K
          try simp only [Act.put, List.setIfInBounds_toArray, List.set_cons_zero, List.set_cons_succ, Nat.zero_add]
          refine wpHd_take (i := 11) (v := ?_) (by kernel_rfl) (by simp only [List.getElem?_toArray, List.getElem?_cons_succ, List.getElem?_cons_zero] <;> rfl) (by kernel_rfl) (fun _ _ _ h => h) (Or.inl ⟨by rfl, ?_⟩) (by assumption) ?_
          rotate_left
          · (intro wS hSw; (try dsimp only at hSw); go_simp <;> with_reducible rfl)
          try simp only [Act.put, List.setIfInBounds_toArray, List.set_cons_zero, List.set_cons_succ, Nat.zero_add]
          refine wpHd_take (i := 12) (v := ?_) (by kernel_rfl) (by simp only [List.getElem?_toArray, List.getElem?_cons_succ, List.getElem?_cons_zero] <;> rfl) (by kernel_rfl) (fun _ _ _ h => h) (Or.inl ⟨by rfl, ?_⟩) (by assumption) ?_
          rotate_left
          · (intro wS hSw; (try dsimp only at hSw); go_simp <;> with_reducible rfl)
          try simp only [Act.put, List.setIfInBounds_toArray, List.set_cons_zero, List.set_cons_succ, Nat.zero_add]
          refine wpHd_take (i := 13) (v := ?_) (by kernel_rfl) (by simp only [List.getElem?_toArray, List.getElem?_cons_succ, List.getElem?_cons_zero] <;> rfl) (by kernel_rfl) (fun _ _ _ h => h) (Or.inl ⟨by rfl, ?_⟩) (by assumption) ?_
          rotate_left
          · (intro wS hSw; (try dsimp only at hSw); go_simp <;> with_reducible rfl)
          try simp only [Act.put, List.setIfInBounds_toArray, List.set_cons_zero, List.set_cons_succ, Nat.zero_add]
          refine wpHd_ready (rs := [14]) (by kernel_rfl) (by simp) ?_
          refine (RdyHd.cons (by simp only [List.getElem?_toArray, List.getElem?_cons_succ, List.getElem?_cons_zero] <;> rfl) (by decide) (fun K hK => ?_) RdyHd.nil)
          · go_simp
            have HS4_ := HS3.out.alloc 45 2 1 #[.slice none 0 0, .slice none 0 0] rfl (by decide)
            try simp only [List.cons_append, List.nil_append, List.set_cons_zero, List.set_cons_succ, List.map_cons, List.map_nil, List.getD_cons_zero, List.getD_cons_succ, World.size_alloc] at HS4_
            have HS4 := Lib.hid HS4_
            clear HS4_
            clear d9 d10
            have d9 := HS4.out.cell (i := 2) rfl 9 _ rfl; have d10 := HS4.out.cell (i := 2) rfl 10 _ rfl
            refine hK.out _ _ ?_ (fun hHeld => ?_)
            · exact ⟨d9, d10⟩
            clear hK K
            try simp only [Act.put, List.setIfInBounds_toArray, List.set_cons_zero, List.set_cons_succ, Nat.zero_add]
            refine wpHd_ready (rs := [15]) (by kernel_rfl) (by simp) ?_
            refine (RdyHd.cons (by simp only [List.getElem?_toArray, List.getElem?_cons_succ, List.getElem?_cons_zero] <;> rfl) (by decide) (fun K hK => ?_) RdyHd.nil)
            · have c0 := HS4.out.cell (i := 4) rfl 0 _ rfl; have f0 := HS4.out.frozen (i := 4) rfl 0; have c1 := HS4.out.cell (i := 4) rfl 1 _ rfl; have f1 := HS4.out.frozen (i := 4) rfl 1
              go_simp
              have HS5_ := HS3.out.alloc 45 2 1 #[.slice B1.sa B1.sn B1.sc, .slice B1.aa B1.an B1.ac] rfl (by decide)
              try simp only [List.cons_append, List.nil_append, List.set_cons_zero, List.set_cons_succ, List.map_cons, List.map_nil, List.getD_cons_zero, List.getD_cons_succ, World.size_alloc] at HS5_
              have HS5 := Lib.hid HS5_
              clear HS5_
              clear c0 f0 c1 f1 d9 d10
              have d9 := HS5.out.cell (i := 2) rfl 9 _ rfl; have d10 := HS5.out.cell (i := 2) rfl 10 _ rfl
              refine hK.out _ _ ?_ (fun hHeld => ?_)
              · exact ⟨d9, d10⟩
              clear hK K
              try simp only [Act.put, List.setIfInBounds_toArray, List.set_cons_zero, List.set_cons_succ, Nat.zero_add]
              refine wpHd_done (by kernel_rfl) ?_
              simp only [List.drop_succ_cons, List.drop_zero]
              go_wp2_with fail
              refine NoPanic.normal ?_
              go_wp2_with fail
              go_meet
              exact ⟨w7.heap.size, gf, df, gl, dl, B1, rfl, rfl, ⟨hB1, hT1⟩, HS5.out.pick [0, 1, 2, 3, 4] (by decide)⟩
        · go_simp
          have HS3_ := HS2.out.alloc 45 2 1 #[.slice none 0 0, .slice none 0 0] rfl (by decide)
          try simp only [List.cons_append, List.nil_append, List.set_cons_zero, List.set_cons_succ, List.map_cons, List.map_nil, List.getD_cons_zero, List.getD_cons_succ, World.size_alloc] at HS3_
          have HS3 := Lib.hid HS3_
          clear HS3_
          clear d9 d10
          have d9 := HS3.out.cell (i := 2) rfl 9 _ rfl; have d10 := HS3.out.cell (i := 2) rfl 10 _ rfl
          refine hK.out _ _ ?_ (fun hHeld => ?_)
          · exact ⟨d9, d10⟩
          clear hK K
          try simp only [Act.put, List.setIfInBounds_toArray, List.set_cons_zero, List.set_cons_succ, Nat.zero_add]
          refine wpHd_ready (rs := [10]) (by kernel_rfl) (by simp) ?_
          refine (RdyHd.cons (by simp only [List.getElem?_toArray, List.getElem?_cons_succ, List.getElem?_cons_zero] <;> rfl) (by decide) (fun K hK => ?_) RdyHd.nil)
          · go_simp
            go_at_call 21
            obtain ⟨qb, hql, hqb⟩ := HS3.out.arsL (i := 0) rfl HOL.out
            have ca := join_any (HS3.out.isF (i := 0) rfl HOF.out hdf) hqb
            try simp only [Ar.v] at ca
            rw [hql] at ca
            rw [HvS.out, HvA.out, HvE.out] at ca
            refine ca.mono ?_
            rintro e w7 ⟨B1, rfl, hI6, hB1, hT1, hO6, hb6⟩
            have HS4_ := HS3.out.arrNew hI6 hO6 hb6
            try simp only [List.cons_append, List.nil_append, List.set_cons_zero, List.set_cons_succ, List.map_cons, List.map_nil, List.getD_cons_zero, List.getD_cons_succ, World.size_alloc] at HS4_
            have HS4 := Lib.hid HS4_
            clear HS4_
            clear ca d9 d10
            have d9 := HS4.out.cell (i := 2) rfl 9 _ rfl; have d10 := HS4.out.cell (i := 2) rfl 10 _ rfl
            (try go_simp)
            (try simp only [Ar.v])
            refine hK.out _ _ ?_ (fun hHeld => ?_)
            · exact ⟨d9, d10⟩
            clear hK K
            try simp only [Act.put, List.setIfInBounds_toArray, List.set_cons_zero, List.set_cons_succ, Nat.zero_add]
            refine wpHd_take (i := 11) (v := ?_) (by kernel_rfl) (by simp only [List.getElem?_toArray, List.getElem?_cons_succ, List.getElem?_cons_zero] <;> rfl) (by kernel_rfl) (fun _ _ _ h => h) (Or.inl ⟨by rfl, ?_⟩) (by assumption) ?_
            rotate_left
            · (intro wS hSw; (try dsimp only at hSw); go_simp <;> with_reducible rfl)
            try simp only [Act.put, List.setIfInBounds_toArray, List.set_cons_zero, List.set_cons_succ, Nat.zero_add]
            refine wpHd_take (i := 12) (v := ?_) (by kernel_rfl) (by simp only [List.getElem?_toArray, List.getElem?_cons_succ, List.getElem?_cons_zero] <;> rfl) (by kernel_rfl) (fun _ _ _ h => h) (Or.inl ⟨by rfl, ?_⟩) (by assumption) ?_
            rotate_left
            · (intro wS hSw; (try dsimp only at hSw); go_simp <;> with_reducible rfl)
            try simp only [Act.put, List.setIfInBounds_toArray, List.set_cons_zero, List.set_cons_succ, Nat.zero_add]
            refine wpHd_take (i := 13) (v := ?_) (by kernel_rfl) (by simp only [List.getElem?_toArray, List.getElem?_cons_succ, List.getElem?_cons_zero] <;> rfl) (by kernel_rfl) (fun _ _ _ h => h) (Or.inl ⟨by rfl, ?_⟩) (by assumption) ?_
            rotate_left
            · (intro wS hSw; (try dsimp only at hSw); go_simp <;> with_reducible rfl)
            try simp only [Act.put, List.setIfInBounds_toArray, List.set_cons_zero, List.set_cons_succ, Nat.zero_add]
            refine wpHd_ready (rs := [15]) (by kernel_rfl) (by simp) ?_
            refine (RdyHd.cons (by simp only [List.getElem?_toArray, List.getElem?_cons_succ, List.getElem?_cons_zero] <;> rfl) (by decide) (fun K hK => ?_) RdyHd.nil)
            · have c0 := HS4.out.cell (i := 3) rfl 0 _ rfl; have f0 := HS4.out.frozen (i := 3) rfl 0; have c1 := HS4.out.cell (i := 3) rfl 1 _ rfl; have f1 := HS4.out.frozen (i := 3) rfl 1
              go_simp
              have HS5_ := ((HS4.out.put (i := 3) rfl 0 (.slice B1.sa B1.sn B1.sc)).put (i := 3) rfl 1 (.slice B1.aa B1.an B1.ac))
              try simp only [List.cons_append, List.nil_append, List.set_cons_zero, List.set_cons_succ, List.map_cons, List.map_nil, List.getD_cons_zero, List.getD_cons_succ, World.size_alloc] at HS5_
              have HS5 := Lib.hid HS5_
              clear HS5_
              clear c0 f0 c1 f1 d9 d10
              have d9 := HS5.out.cell (i := 2) rfl 9 _ rfl; have d10 := HS5.out.cell (i := 2) rfl 10 _ rfl
              refine hK.out _ _ ?_ (fun hHeld => ?_)
              · exact ⟨d9, d10⟩
              clear hK K
              try simp only [Act.put, List.setIfInBounds_toArray, List.set_cons_zero, List.set_cons_succ, Nat.zero_add]
              refine wpHd_done (by kernel_rfl) ?_
              simp only [List.drop_succ_cons, List.drop_zero]
              go_wp2_with fail
              refine NoPanic.normal ?_
              go_wp2_with fail
              go_meet
              exact ⟨w6.heap.size, gf, df, gl, dl, B1, rfl, rfl, ⟨hB1, hT1⟩, HS5.out.pick [0, 1, 2, 4, 3] (by decide)⟩
      · go_simp
        have HS2_ := HS1.out.alloc 45 2 1 #[.slice none 0 0, .slice none 0 0] rfl (by decide)
        try simp only [List.cons_append, List.nil_append, List.set_cons_zero, List.set_cons_succ, List.map_cons, List.map_nil, List.getD_cons_zero, List.getD_cons_succ, World.size_alloc] at HS2_
        have HS2 := Lib.hid HS2_
        clear HS2_
        clear d9 d10
        have d9 := HS2.out.cell (i := 2) rfl 9 _ rfl; have d10 := HS2.out.cell (i := 2) rfl 10 _ rfl
        refine hK.out _ _ ?_ (fun hHeld => ?_)
        · exact ⟨d9, d10⟩
        clear hK K
        try simp only [Act.put, List.setIfInBounds_toArray, List.set_cons_zero, List.set_cons_succ, Nat.zero_add]
        refine wpHd_ready (rs := [9]) (by kernel_rfl) (by simp) ?_
        refine (RdyHd.cons (by simp only [List.getElem?_toArray, List.getElem?_cons_succ, List.getElem?_cons_zero] <;> rfl) (by decide) (fun K hK => ?_) RdyHd.nil)
        · go_simp
          go_at_call 46
          have ca := HS2.out.listC (i := 0) rfl HOL.out HBG.out
          refine ca.mono ?_
          rintro e w6 ⟨gl, dl, rfl, h5⟩
          simp only [List.set_cons_zero] at h5
          have HS3 := Lib.hid h5
          clear ca h5 d9 d10
          have d9 := HS3.out.cell (i := 2) rfl 9 _ rfl; have d10 := HS3.out.cell (i := 2) rfl 10 _ rfl
          (try go_simp)
          refine hK.out _ _ ?_ (fun hHeld => ?_)
          · exact ⟨d9, d10⟩
          clear hK K
          try simp only [Act.put, List.setIfInBounds_toArray, List.set_cons_zero, List.set_cons_succ, Nat.zero_add]
          refine wpHd_ready (rs := [10]) (by kernel_rfl) (by simp) ?_
          refine (RdyHd.cons (by simp only [List.getElem?_toArray, List.getElem?_cons_succ, List.getElem?_cons_zero] <;> rfl) (by decide) (fun K hK => ?_) RdyHd.nil)
          · go_simp
            go_at_call 21
            obtain ⟨qb, hql, hqb⟩ := HS3.out.arsL (i := 0) rfl HOL.out
            have ca := join_any (HS3.out.isF (i := 0) rfl HOF.out hdf) hqb
            try simp only [Ar.v] at ca
            rw [hql] at ca
            rw [HvS.out, HvA.out, HvE.out] at ca
            refine ca.mono ?_
            rintro e w7 ⟨B1, rfl, hI6, hB1, hT1, hO6, hb6⟩
            have HS4_ := HS3.out.arrNew hI6 hO6 hb6
            try simp only [List.cons_append, List.nil_append, List.set_cons_zero, List.set_cons_succ, List.map_cons, List.map_nil, List.getD_cons_zero, List.getD_cons_succ, World.size_alloc] at HS4_
            have HS4 := Lib.hid HS4_
            clear HS4_
            clear ca d9 d10
            have d9 := HS4.out.cell (i := 2) rfl 9 _ rfl; have d10 := HS4.out.cell (i := 2) rfl 10 _ rfl
            (try go_simp)
            (try simp only [Ar.v])
            refine hK.out _ _ ?_ (fun hHeld => ?_)
            · exact ⟨d9, d10⟩
            clear hK K
            try simp only [Act.put, List.setIfInBounds_toArray, List.set_cons_zero, List.set_cons_succ, Nat.zero_add]
            refine wpHd_take (i := 11) (v := ?_) (by kernel_rfl) (by simp only [List.getElem?_toArray, List.getElem?_cons_succ, List.getElem?_cons_zero] <;> rfl) (by kernel_rfl) (fun _ _ _ h => h) (Or.inl ⟨by rfl, ?_⟩) (by assumption) ?_
            rotate_left
            · (intro wS hSw; (try dsimp only at hSw); go_simp <;> with_reducible rfl)
            try simp only [Act.put, List.setIfInBounds_toArray, List.set_cons_zero, List.set_cons_succ, Nat.zero_add]
            refine wpHd_take (i := 12) (v := ?_) (by kernel_rfl) (by simp only [List.getElem?_toArray, List.getElem?_cons_succ, List.getElem?_cons_zero] <;> rfl) (by kernel_rfl) (fun _ _ _ h => h) (Or.inl ⟨by rfl, ?_⟩) (by assumption) ?_
            rotate_left
            · (intro wS hSw; (try dsimp only at hSw); go_simp <;> with_reducible rfl)
            try simp only [Act.put, List.setIfInBounds_toArray, List.set_cons_zero, List.set_cons_succ, Nat.zero_add]
            refine wpHd_take (i := 13) (v := ?_) (by kernel_rfl) (by simp only [List.getElem?_toArray, List.getElem?_cons_succ, List.getElem?_cons_zero] <;> rfl) (by kernel_rfl) (fun _ _ _ h => h) (Or.inl ⟨by rfl, ?_⟩) (by assumption) ?_
            rotate_left
            · (intro wS hSw; (try dsimp only at hSw); go_simp <;> with_reducible rfl)
            try simp only [Act.put, List.setIfInBounds_toArray, List.set_cons_zero, List.set_cons_succ, Nat.zero_add]
            refine wpHd_ready (rs := [15]) (by kernel_rfl) (by simp) ?_
            refine (RdyHd.cons (by simp only [List.getElem?_toArray, List.getElem?_cons_succ, List.getElem?_cons_zero] <;> rfl) (by decide) (fun K hK => ?_) RdyHd.nil)
            · have c0 := HS4.out.cell (i := 3) rfl 0 _ rfl; have f0 := HS4.out.frozen (i := 3) rfl 0; have c1 := HS4.out.cell (i := 3) rfl 1 _ rfl; have f1 := HS4.out.frozen (i := 3) rfl 1
              go_simp
              have HS5_ := ((HS4.out.put (i := 3) rfl 0 (.slice B1.sa B1.sn B1.sc)).put (i := 3) rfl 1 (.slice B1.aa B1.an B1.ac))
              try simp only [List.cons_append, List.nil_append, List.set_cons_zero, List.set_cons_succ, List.map_cons, List.map_nil, List.getD_cons_zero, List.getD_cons_succ, World.size_alloc] at HS5_
              have HS5 := Lib.hid HS5_
              clear HS5_
              clear c0 f0 c1 f1 d9 d10
              have d9 := HS5.out.cell (i := 2) rfl 9 _ rfl; have d10 := HS5.out.cell (i := 2) rfl 10 _ rfl
              refine hK.out _ _ ?_ (fun hHeld => ?_)
              · exact ⟨d9, d10⟩
              clear hK K
              try simp only [Act.put, List.setIfInBounds_toArray, List.set_cons_zero, List.set_cons_succ, Nat.zero_add]
              refine wpHd_done (by kernel_rfl) ?_
              simp only [List.drop_succ_cons, List.drop_zero]
              go_wp2_with fail
              refine NoPanic.normal ?_
              go_wp2_with fail
              go_meet
              exact ⟨w5.heap.size, gf, df, gl, dl, B1, rfl, rfl, ⟨hB1, hT1⟩, HS5.out.pick [0, 1, 2, 4, 3] (by decide)⟩
    · go_simp
      have HS1_ := (HSA.out.alloc 45 2 1 #[.slice none 0 0, .slice none 0 0] rfl (by decide)).via (adrew1 _)
      try simp only [List.cons_append, List.nil_append, List.set_cons_zero, List.set_cons_succ, List.map_cons, List.map_nil, List.getD_cons_zero, List.getD_cons_succ, World.size_alloc] at HS1_
      have HS1 := Lib.hid HS1_
      clear HS1_
      clear d9 d10
      have d9 := HS1.out.cell (i := 2) rfl 9 _ rfl; have d10 := HS1.out.cell (i := 2) rfl 10 _ rfl
      refine hK.out _ _ ?_ (fun hHeld => ?_)
      · exact ⟨d9, d10⟩
      clear hK K
      try simp only [Act.put, List.setIfInBounds_toArray, List.set_cons_zero, List.set_cons_succ, Nat.zero_add]
      refine wpHd_ready (rs := [5]) (by kernel_rfl) (by simp) ?_
      refine (RdyHd.cons (by simp only [List.getElem?_toArray, List.getElem?_cons_succ, List.getElem?_cons_zero] <;> rfl) (by decide) (fun K hK => ?_) RdyHd.nil)
      · go_simp
        go_at_call 32
        have ca := HS1.out.intsF (i := 0) rfl HOF.out
        refine ca.mono ?_
        rintro e w5 ⟨gf, df, rfl, hdf, h5⟩
        simp only [List.set_cons_zero] at h5
        have HS2 := Lib.hid h5
        clear ca h5 d9 d10
        have d9 := HS2.out.cell (i := 2) rfl 9 _ rfl; have d10 := HS2.out.cell (i := 2) rfl 10 _ rfl
        (try go_simp)
        refine hK.out _ _ ?_ (fun hHeld => ?_)
        · exact ⟨d9, d10⟩
        clear hK K
        try simp only [Act.put, List.setIfInBounds_toArray, List.set_cons_zero, List.set_cons_succ, Nat.zero_add]
        refine wpHd_ready (rs := [9]) (by kernel_rfl) (by simp) ?_
        refine (RdyHd.cons (by simp only [List.getElem?_toArray, List.getElem?_cons_succ, List.getElem?_cons_zero] <;> rfl) (by decide) (fun K hK => ?_) RdyHd.nil)
        · go_simp
          go_at_call 46
          have ca := HS2.out.listC (i := 0) rfl HOL.out HBG.out
          refine ca.mono ?_
          rintro e w6 ⟨gl, dl, rfl, h5⟩
          simp only [List.set_cons_zero] at h5
          have HS3 := Lib.hid h5
          clear ca h5 d9 d10
          have d9 := HS3.out.cell (i := 2) rfl 9 _ rfl; have d10 := HS3.out.cell (i := 2) rfl 10 _ rfl
          (try go_simp)
          refine hK.out _ _ ?_ (fun hHeld => ?_)
          · exact ⟨d9, d10⟩
          clear hK K
          try simp only [Act.put, List.setIfInBounds_toArray, List.set_cons_zero, List.set_cons_succ, Nat.zero_add]
          refine wpHd_ready (rs := [10]) (by kernel_rfl) (by simp) ?_
          refine (RdyHd.cons (by simp only [List.getElem?_toArray, List.getElem?_cons_succ, List.getElem?_cons_zero] <;> rfl) (by decide) (fun K hK => ?_) RdyHd.nil)
          · go_simp
            go_at_call 21
            obtain ⟨qb, hql, hqb⟩ := HS3.out.arsL (i := 0) rfl HOL.out
            have ca := join_any (HS3.out.isF (i := 0) rfl HOF.out hdf) hqb
            try simp only [Ar.v] at ca
            rw [hql] at ca
            rw [HvS.out, HvA.out, HvE.out] at ca
            refine ca.mono ?_
            rintro e w7 ⟨B1, rfl, hI6, hB1, hT1, hO6, hb6⟩
            have HS4_ := HS3.out.arrNew hI6 hO6 hb6
            try simp only [List.cons_append, List.nil_append, List.set_cons_zero, List.set_cons_succ, List.map_cons, List.map_nil, List.getD_cons_zero, List.getD_cons_succ, World.size_alloc] at HS4_
            have HS4 := Lib.hid HS4_
            clear HS4_
            clear ca d9 d10
            have d9 := HS4.out.cell (i := 2) rfl 9 _ rfl; have d10 := HS4.out.cell (i := 2) rfl 10 _ rfl
            (try go_simp)
            (try simp only [Ar.v])
            refine hK.out _ _ ?_ (fun hHeld => ?_)
            · exact ⟨d9, d10⟩
            clear hK K
            try simp only [Act.put, List.setIfInBounds_toArray, List.set_cons_zero, List.set_cons_succ, Nat.zero_add]
            refine wpHd_take (i := 11) (v := ?_) (by kernel_rfl) (by simp only [List.getElem?_toArray, List.getElem?_cons_succ, List.getElem?_cons_zero] <;> rfl) (by kernel_rfl) (fun _ _ _ h => h) (Or.inl ⟨by rfl, ?_⟩) (by assumption) ?_
            rotate_left
            · (intro wS hSw; (try dsimp only at hSw); go_simp <;> with_reducible rfl)
            try simp only [Act.put, List.setIfInBounds_toArray, List.set_cons_zero, List.set_cons_succ, Nat.zero_add]
            refine wpHd_take (i := 12) (v := ?_) (by kernel_rfl) (by simp only [List.getElem?_toArray, List.getElem?_cons_succ, List.getElem?_cons_zero] <;> rfl) (by kernel_rfl) (fun _ _ _ h => h) (Or.inl ⟨by rfl, ?_⟩) (by assumption) ?_
            rotate_left
            · (intro wS hSw; (try dsimp only at hSw); go_simp <;> with_reducible rfl)
            try simp only [Act.put, List.setIfInBounds_toArray, List.set_cons_zero, List.set_cons_succ, Nat.zero_add]
            refine wpHd_take (i := 13) (v := ?_) (by kernel_rfl) (by simp only [List.getElem?_toArray, List.getElem?_cons_succ, List.getElem?_cons_zero] <;> rfl) (by kernel_rfl) (fun _ _ _ h => h) (Or.inl ⟨by rfl, ?_⟩) (by assumption) ?_
            rotate_left
            · (intro wS hSw; (try dsimp only at hSw); go_simp <;> with_reducible rfl)
            try simp only [Act.put, List.setIfInBounds_toArray, List.set_cons_zero, List.set_cons_succ, Nat.zero_add]
            refine wpHd_ready (rs := [15]) (by kernel_rfl) (by simp) ?_
            refine (RdyHd.cons (by simp only [List.getElem?_toArray, List.getElem?_cons_succ, List.getElem?_cons_zero] <;> rfl) (by decide) (fun K hK => ?_) RdyHd.nil)
            · have c0 := HS4.out.cell (i := 3) rfl 0 _ rfl; have f0 := HS4.out.frozen (i := 3) rfl 0; have c1 := HS4.out.cell (i := 3) rfl 1 _ rfl; have f1 := HS4.out.frozen (i := 3) rfl 1
              go_simp
              have HS5_ := ((HS4.out.put (i := 3) rfl 0 (.slice B1.sa B1.sn B1.sc)).put (i := 3) rfl 1 (.slice B1.aa B1.an B1.ac))
              try simp only [List.cons_append, List.nil_append, List.set_cons_zero, List.set_cons_succ, List.map_cons, List.map_nil, List.getD_cons_zero, List.getD_cons_succ, World.size_alloc] at HS5_
              have HS5 := Lib.hid HS5_
              clear HS5_
              clear c0 f0 c1 f1 d9 d10
              have d9 := HS5.out.cell (i := 2) rfl 9 _ rfl; have d10 := HS5.out.cell (i := 2) rfl 10 _ rfl
              refine hK.out _ _ ?_ (fun hHeld => ?_)
              · exact ⟨d9, d10⟩
              clear hK K
              try simp only [Act.put, List.setIfInBounds_toArray, List.set_cons_zero, List.set_cons_succ, Nat.zero_add]
              refine wpHd_done (by kernel_rfl) ?_
              simp only [List.drop_succ_cons, List.drop_zero]
              go_wp2_with fail
              refine NoPanic.normal ?_
              go_wp2_with fail
              go_meet
              exact ⟨w3.heap.size, gf, df, gl, dl, B1, rfl, rfl, ⟨hB1, hT1⟩, HS5.out.pick [0, 1, 2, 4, 3] (by decide)⟩
  case rest =>
    obtain ⟨gb, gf, df, gl, dl, B1, rfl, rfl, HF1, HQ0⟩ := hcut
    obtain ⟨w10, hU⟩ : ∃ z : World, z = wc := ⟨_, rfl⟩
    subst hU
    clear d9 d10 HSA HS0 H1
    go_upto_region 25 with fail
    have HK0_ := HQ0.out.via (adrew1 w10)
    try simp only [List.cons_append, List.nil_append, List.set_cons_zero, List.set_cons_succ, List.map_cons, List.map_nil, List.getD_cons_zero, List.getD_cons_succ, World.size_alloc] at HK0_
    have HK0 := Lib.hid HK0_
    clear HK0_
    have d9 := HK0.out.cell (i := 2) rfl 9 _ rfl
    refine wp_region_noPanic ?_
    refine wp_region_hd (S := (fun wS => wS.cell? ⟨b, 9, none⟩ = some (.slice po pn pc))) 6 (by kernel_rfl) (by kernel_rfl) ?_ (fun hHeld => ?_)
    · exact d9
    refine wpHd_take (i := 0) (v := ?_) (by kernel_rfl) (by simp only [List.getElem?_toArray, List.getElem?_cons_succ, List.getElem?_cons_zero] <;> rfl) (by kernel_rfl) (fun _ _ _ h => h) (Or.inl ⟨by rfl, ?_⟩) (by assumption) ?_
    rotate_left
    · (intro wS hSw; (try dsimp only at hSw); go_simp <;> with_reducible rfl)
    try simp only [Act.put, List.setIfInBounds_toArray, List.set_cons_zero, List.set_cons_succ, Nat.zero_add]
    refine wpHd_take (i := 1) (v := ?_) (by kernel_rfl) (by simp only [List.getElem?_toArray, List.getElem?_cons_succ, List.getElem?_cons_zero] <;> rfl) (by kernel_rfl) (fun _ _ _ h => h) (Or.inl ⟨by rfl, ?_⟩) (by assumption) ?_
    rotate_left
    · (intro wS hSw; (try dsimp only at hSw); go_simp <;> with_reducible rfl)
    try simp only [Act.put, List.setIfInBounds_toArray, List.set_cons_zero, List.set_cons_succ, Nat.zero_add]
    refine wpHd_take (i := 2) (v := ?_) (by kernel_rfl) (by simp only [List.getElem?_toArray, List.getElem?_cons_succ, List.getElem?_cons_zero] <;> rfl) (by kernel_rfl) (fun _ _ _ h => h) (Or.inl ⟨by rfl, ?_⟩) (by assumption) ?_
    rotate_left
    · (intro wS hSw; (try dsimp only at hSw); go_simp <;> with_reducible rfl)
    try simp only [Act.put, List.setIfInBounds_toArray, List.set_cons_zero, List.set_cons_succ, Nat.zero_add]
    refine wpHd_take (i := 3) (v := ?_) (by kernel_rfl) (by simp only [List.getElem?_toArray, List.getElem?_cons_succ, List.getElem?_cons_zero] <;> rfl) (by kernel_rfl) (fun _ _ _ h => h) (Or.inl ⟨by rfl, ?_⟩) (by assumption) ?_
    rotate_left
    · (intro wS hSw; (try dsimp only at hSw); go_simp <;> with_reducible rfl)
    try simp only [Act.put, List.setIfInBounds_toArray, List.set_cons_zero, List.set_cons_succ, Nat.zero_add]
    refine wpHd_take (i := 4) (v := ?_) (by kernel_rfl) (by simp only [List.getElem?_toArray, List.getElem?_cons_succ, List.getElem?_cons_zero] <;> rfl) (by kernel_rfl) (fun _ _ _ h => h) (Or.inl ⟨by rfl, ?_⟩) (by assumption) ?_
    rotate_left
    · (intro wS hSw; (try dsimp only at hSw); go_simp <;> with_reducible rfl)
    try simp only [Act.put, List.setIfInBounds_toArray, List.set_cons_zero, List.set_cons_succ, Nat.zero_add]
    refine wpHd_ready (rs := [5]) (by kernel_rfl) (by simp) ?_
    refine (RdyHd.cons (by simp only [List.getElem?_toArray, List.getElem?_cons_succ, List.getElem?_cons_zero] <;> rfl) (by decide) (fun K hK => ?_) RdyHd.nil)
    · go_simp
      go_at_call 33
      have ca := HK0.out.keptF (i := 0) rfl HOF.out
      refine ca.mono ?_
      rintro e w11 ⟨rfl, h5⟩
      have HQ1_ := h5
      try simp only [List.cons_append, List.nil_append, List.set_cons_zero, List.set_cons_succ, List.map_cons, List.map_nil, List.getD_cons_zero, List.getD_cons_succ, World.size_alloc] at HQ1_
      have HQ1 := Lib.hid HQ1_
      clear HQ1_
      clear ca h5 d9
      have d9 := HQ1.out.cell (i := 2) rfl 9 _ rfl
      (try go_simp)
      refine hK.out _ _ ?_ (fun hHeld => ?_)
      · exact d9
      clear hK K
      try simp only [Act.put, List.setIfInBounds_toArray, List.set_cons_zero, List.set_cons_succ, Nat.zero_add]
      refine wpHd_done (by kernel_rfl) ?_
      simp only [List.drop_succ_cons, List.drop_zero]
      go_wp2_with fail
      refine NoPanic.normal ?_
      clear d9 HK0
      skip
      have d10 := HQ1.out.cell (i := 2) rfl 10 _ rfl
      have ca := HQ1.out.keptL (i := 0) rfl HOL.out
      have CA := Lib.hid ca
      clear ca
      go_wp2_with fail
      refine CA.out.mono ?_; rintro e w12 ⟨rfl, h5⟩
      have HQ2_ := h5
      try simp only [List.cons_append, List.nil_append, List.set_cons_zero, List.set_cons_succ, List.map_cons, List.map_nil, List.getD_cons_zero, List.getD_cons_succ, World.size_alloc] at HQ2_
      have HQ2 := Lib.hid HQ2_
      clear HQ2_
      clear h5 CA d10
      have d9 := HQ2.out.cell (i := 2) rfl 9 _ rfl; have d10 := HQ2.out.cell (i := 2) rfl 10 _ rfl
      have cr := rjoin_any (HOF.out.below HQ2.out.belowN (Nat.le_refl _)) (HOL.out.below HQ2.out.belowN (Nat.le_refl _))
      try simp only [Ar.v] at cr
      rw [HvS.out, HvA.out, HvE.out] at cr
      have CR := Lib.hid cr
      clear cr
      go_wp2_with fail
      refine CR.out.mono ?_; rintro e w20 ⟨B2, rfl, hI6, hB2, hT2, hO6, hb6⟩
      obtain ⟨WE, HWE⟩ : ∃ z, Hid (w20.alloc (.cells #[.slice B2.sa B2.sn B2.sc, .slice B2.aa B2.an B2.ac] 45) = z) := ⟨_, rfl⟩
      have h7 := (HQ2.out.arrNew hI6 hO6 hb6).alloc 45 2 1 #[.slice B2.sa B2.sn B2.sc, .slice B2.aa B2.an B2.ac] rfl (by decide)
      obtain ⟨b2, HB2⟩ : ∃ z, Hid (w20.heap.size = z) := ⟨_, rfl⟩
      rw [HWE.out, HB2.out] at h7
      have HE_ := h7
      try simp only [List.cons_append, List.nil_append, List.set_cons_zero, List.set_cons_succ, List.map_cons, List.map_nil, List.getD_cons_zero, List.getD_cons_succ, World.size_alloc] at HE_
      have HE := Lib.hid HE_
      clear HE_
      clear h7 CR d9 d10
      have HF2 : Hid (B2.s = vS ∧ B2.a = vA) := ⟨hB2, hT2⟩
      try simp only [Ar.v]
      go_upto_region 28 with fail
      rw [HWE.out, HB2.out]
      have p0 := HE.out.cell (i := 4) rfl 0 _ rfl
      have q0 := HE.out.cell (i := 6) rfl 0 _ rfl
      have p1 := HE.out.cell (i := 4) rfl 1 _ rfl
      have q1 := HE.out.cell (i := 6) rfl 1 _ rfl
      have ce := eq4_any (HE.out.isA (i := 3) rfl) (HE.out.isA (i := 5) rfl)
      rw [decide_eq_true (And.intro (HF1.out.1.trans HF2.out.1.symm) (HF1.out.2.trans HF2.out.2.symm))] at ce
      simp only [Ar.v] at ce
      have CE0 := Lib.hid ce
      clear ce
      go_wp2_with fail
      refine CE0.out.mono ?_; rintro e w30 ⟨rfl, hb9⟩
      have HE0_ := HE.out.via hb9
      try simp only [List.cons_append, List.nil_append, List.set_cons_zero, List.set_cons_succ, List.map_cons, List.map_nil, List.getD_cons_zero, List.getD_cons_succ, World.size_alloc] at HE0_
      have HE0 := Lib.hid HE0_
      clear HE0_
      clear hb9 p0 q0 p1 q1
      have HF : Hid (PlaysP w0 hb G (.returned (.bool true)) w30) := ⟨rfl, HE0.out.pick [0, 1] (by decide)⟩
      go_wp2
      exact bodyPost_ret (v := .bool true) (by simp [results, Try.results9, go_sem, *]) rfl HF.out
set_option maxRecDepth 100000 in
set_option maxHeartbeats 6400000 in
theorem cplays_6 {w0 w : World} {hb : Nat} {G : Pt} (H : Sp Non w0 w [Pt.hands hb none none none none, G]) {o : OpC} (hO : o.Is w0) (hk : o.k = 6) : Calls Try.prog 9 #[.pointer (some ⟨hb, 0, none⟩), o.v] w (PlaysP w0 hb G) := by
  obtain ⟨kk, on, ⟨x1, x2, x3, x4, x5, x6, xs, xt⟩, ⟨y1, y2, y3, y4, y5, y6, ys, yt⟩, mm, nn, ll, po, pn, pc, pf, qo, qn, qc, qs, tl⟩ := o
  obtain ⟨hX, hY, hF, hL, hM, hN, hLL, hBG⟩ := hO
  simp only at hk hX hY hF hL hM hN hLL hBG
  subst hk
  have HOX := Lib.hid hX
  have HOY := Lib.hid hY
  have HOF := Lib.hid hF
  have HOL := Lib.hid hL
  have HM := Lib.hid hM
  have HN := Lib.hid hN
  have HLL := Lib.hid hLL
  have HBG := Lib.hid hBG
  simp only [OpC.v]
  obtain ⟨b, HB⟩ : ∃ z, Hid (w.heap.size = z) := ⟨_, rfl⟩
  obtain ⟨W, HW⟩ : ∃ z, Hid (w.alloc (.cells #[.int .i64 6, .int .i64 on, .slice x1 x2 x3, .slice x4 x5 x6, .slice y1 y2 y3, .slice y4 y5 y6, .int .i64 mm, .int .i64 nn, .int .i64 ll, .slice po pn pc, .slice qo qn qc, .bool tl] 47) = z) := ⟨_, rfl⟩
  have h1 := H.alloc 47 12 1 #[.int .i64 6, .int .i64 on, .slice x1 x2 x3, .slice x4 x5 x6, .slice y1 y2 y3, .slice y4 y5 y6, .int .i64 mm, .int .i64 nn, .int .i64 ll, .slice po pn pc, .slice qo qn qc, .bool tl] rfl (by decide)
  rw [HW.out, HB.out] at h1
  have H1_ := h1
  try simp only [List.cons_append, List.nil_append, List.set_cons_zero, List.set_cons_succ, List.map_cons, List.map_nil, List.getD_cons_zero, List.getD_cons_succ, World.size_alloc] at H1_
  have H1 := Lib.hid H1_
  clear H1_
  clear h1 H hX hY hF hL hM hN hLL hBG
  obtain ⟨vS, HvS⟩ : ∃ z, Hid (emS pf ys yt tl = z) := ⟨_, rfl⟩
  obtain ⟨vE, HvE⟩ : ∃ z, Hid (emE pf ys yt tl = z) := ⟨_, rfl⟩
  have x0 := H1.out.cell (i := 2) rfl 0 _ rfl
  go_enter Try.func9, Try.ntmps9
  go_upto_region 1 with fail
  rw [HW.out, HB.out]
  go_upto_region 30 with fail
  obtain ⟨w3, Hw3⟩ : ∃ z, Hid (W = z) := ⟨_, rfl⟩
  rw [Hw3.out] at H1 ⊢
  have HSA := H1
  clear x0
  have HS0_ := HSA.out.via (adrew1 w3)
  try simp only [List.cons_append, List.nil_append, List.set_cons_zero, List.set_cons_succ, List.map_cons, List.map_nil, List.getD_cons_zero, List.getD_cons_succ, World.size_alloc] at HS0_
  have HS0 := Lib.hid HS0_
  clear HS0_
  have d4 := HS0.out.cell (i := 2) rfl 4 _ rfl; have d5 := HS0.out.cell (i := 2) rfl 5 _ rfl; have d9 := HS0.out.cell (i := 2) rfl 9 _ rfl; have d11 := HS0.out.cell (i := 2) rfl 11 _ rfl
  go_cut [34, 35] from 280 to 297 (fun (v34 v35 : Value) (wx : World) => ∃ (gb : Nat) (gf df gy dy ky ey : Nat) (B1 : Ar), v34 = .pointer (some ⟨gb, 0, none⟩) ∧ v35 = .int .i64 vE ∧ Hid (B1.s = vS ∧ B1.a = []) ∧ Hid (Sp Non w0 wx [Pt.hands hb none (some (laid4 ys yt gy dy ky ey)) (some (laidF pf gf df)) none, G, Pt.row ⟨47, 12, some ⟨b, 0, none⟩, 1, 1, [.int .i64 6, .int .i64 on, .slice x1 x2 x3, .slice x4 x5 x6, .slice y1 y2 y3, .slice y4 y5 y6, .int .i64 mm, .int .i64 nn, .int .i64 ll, .slice po pn pc, .slice qo qn qc, .bool tl]⟩, Pt.arr B1, Pt.row ⟨45, 2, some ⟨gb, 0, none⟩, 1, 1, [.slice B1.sa B1.sn B1.sc, .slice B1.aa B1.an B1.ac]⟩]))
  case first =>
    go_upto_region 30 with fail
    refine wp_region_noPanic ?_
    refine wp_region_hd (S := (fun wS => wS.cell? ⟨b, 4, none⟩ = some (.slice y1 y2 y3) ∧ wS.cell? ⟨b, 5, none⟩ = some (.slice y4 y5 y6) ∧ wS.cell? ⟨b, 9, none⟩ = some (.slice po pn pc) ∧ wS.cell? ⟨b, 11, none⟩ = some (.bool tl))) 20 (by kernel_rfl) (by kernel_rfl) ?_ (fun hHeld => ?_)
    · exact ⟨d4, d5, d9, d11⟩
    refine wpHd_take (i := 0) (v := ?_) (by kernel_rfl) (by simp only [List.getElem?_toArray, List.getElem?_cons_succ, List.getElem?_cons_zero] <;> rfl) (by kernel_rfl) (fun _ _ _ h => h) (Or.inl ⟨by rfl, ?_⟩) (by assumption) ?_
    rotate_left
    · (intro wS hSw; (try dsimp only at hSw); go_simp <;> with_reducible rfl)
    try simp only [Act.put, List.setIfInBounds_toArray, List.set_cons_zero, List.set_cons_succ, Nat.zero_add]
    refine wpHd_take (i := 1) (v := ?_) (by kernel_rfl) (by simp only [List.getElem?_toArray, List.getElem?_cons_succ, List.getElem?_cons_zero] <;> rfl) (by kernel_rfl) (fun _ _ _ h => h) (Or.inl ⟨by rfl, ?_⟩) (by assumption) ?_
    rotate_left
    · (intro wS hSw; (try dsimp only at hSw); go_simp <;> with_reducible rfl)
    try simp only [Act.put, List.setIfInBounds_toArray, List.set_cons_zero, List.set_cons_succ, Nat.zero_add]
    refine wpHd_take (i := 2) (v := ?_) (by kernel_rfl) (by simp only [List.getElem?_toArray, List.getElem?_cons_succ, List.getElem?_cons_zero] <;> rfl) (by kernel_rfl) (fun _ _ _ h => h) (Or.inl ⟨by rfl, ?_⟩) (by assumption) ?_
    rotate_left
    · (intro wS hSw; (try dsimp only at hSw); go_simp <;> with_reducible rfl)
    try simp only [Act.put, List.setIfInBounds_toArray, List.set_cons_zero, List.set_cons_succ, Nat.zero_add]
    refine wpHd_take (i := 3) (v := ?_) (by kernel_rfl) (by simp only [List.getElem?_toArray, List.getElem?_cons_succ, List.getElem?_cons_zero] <;> rfl) (by kernel_rfl) (fun _ _ _ h => h) (Or.inl ⟨by rfl, ?_⟩) (by assumption) ?_
    rotate_left
    · (intro wS hSw; (try dsimp only at hSw); go_simp <;> with_reducible rfl)
    try simp only [Act.put, List.setIfInBounds_toArray, List.set_cons_zero, List.set_cons_succ, Nat.zero_add]
    refine wpHd_take (i := 4) (v := ?_) (by kernel_rfl) (by simp only [List.getElem?_toArray, List.getElem?_cons_succ, List.getElem?_cons_zero] <;> rfl) (by kernel_rfl) (fun _ _ _ h => h) (Or.inl ⟨by rfl, ?_⟩) (by assumption) ?_
    rotate_left
    · (intro wS hSw; (try dsimp only at hSw); go_simp <;> with_reducible rfl)
    try simp only [Act.put, List.setIfInBounds_toArray, List.set_cons_zero, List.set_cons_succ, Nat.zero_add]
    refine wpHd_take (i := 6) (v := ?_) (by kernel_rfl) (by simp only [List.getElem?_toArray, List.getElem?_cons_succ, List.getElem?_cons_zero] <;> rfl) (by kernel_rfl) (fun _ _ _ h => h) (Or.inl ⟨by rfl, ?_⟩) (by assumption) ?_
    rotate_left
    · (intro wS hSw; (try dsimp only at hSw); go_simp <;> with_reducible rfl)
    try simp only [Act.put, List.setIfInBounds_toArray, List.set_cons_zero, List.set_cons_succ, Nat.zero_add]
    refine wpHd_take (i := 7) (v := ?_) (by kernel_rfl) (by simp only [List.getElem?_toArray, List.getElem?_cons_succ, List.getElem?_cons_zero] <;> rfl) (by kernel_rfl) (fun _ _ _ h => h) (Or.inl ⟨by rfl, ?_⟩) (by assumption) ?_
    rotate_left
    · (intro wS hSw; (try dsimp only at hSw); go_simp <;> with_reducible rfl)
    try simp only [Act.put, List.setIfInBounds_toArray, List.set_cons_zero, List.set_cons_succ, Nat.zero_add]
    refine wpHd_take (i := 8) (v := ?_) (by kernel_rfl) (by simp only [List.getElem?_toArray, List.getElem?_cons_succ, List.getElem?_cons_zero] <;> rfl) (by kernel_rfl) (fun _ _ _ h => h) (Or.inl ⟨by rfl, ?_⟩) (by assumption) ?_
    rotate_left
    · (intro wS hSw; (try dsimp only at hSw); go_simp <;> with_reducible rfl)
    try simp only [Act.put, List.setIfInBounds_toArray, List.set_cons_zero, List.set_cons_succ, Nat.zero_add]
    refine wpHd_take (i := 9) (v := ?_) (by kernel_rfl) (by simp only [List.getElem?_toArray, List.getElem?_cons_succ, List.getElem?_cons_zero] <;> rfl) (by kernel_rfl) (fun _ _ _ h => h) (Or.inl ⟨by rfl, ?_⟩) (by assumption) ?_
    rotate_left
    · (intro wS hSw; (try dsimp only at hSw); go_simp <;> with_reducible rfl)
    try simp only [Act.put, List.setIfInBounds_toArray, List.set_cons_zero, List.set_cons_succ, Nat.zero_add]
    refine wpHd_take (i := 10) (v := ?_) (by kernel_rfl) (by simp only [List.getElem?_toArray, List.getElem?_cons_succ, List.getElem?_cons_zero] <;> rfl) (by kernel_rfl) (fun _ _ _ h => h) (Or.inl ⟨by rfl, ?_⟩) (by assumption) ?_
    rotate_left
    · (intro wS hSw; (try dsimp only at hSw); go_simp <;> with_reducible rfl)
    try simp only [Act.put, List.setIfInBounds_toArray, List.set_cons_zero, List.set_cons_succ, Nat.zero_add]
    refine wpHd_take (i := 12) (v := ?_) (by kernel_rfl) (by simp only [List.getElem?_toArray, List.getElem?_cons_succ, List.getElem?_cons_zero] <;> rfl) (by kernel_rfl) (fun _ _ _ h => h) (Or.inl ⟨by rfl, ?_⟩) (by assumption) ?_
    rotate_left
    · (intro wS hSw; (try dsimp only at hSw); go_simp <;> with_reducible rfl)
    try simp only [Act.put, List.setIfInBounds_toArray, List.set_cons_zero, List.set_cons_succ, Nat.zero_add]
    refine wpHd_take (i := 13) (v := ?_) (by kernel_rfl) (by simp only [List.getElem?_toArray, List.getElem?_cons_succ, List.getElem?_cons_zero] <;> rfl) (by kernel_rfl) (fun _ _ _ h => h) (Or.inl ⟨by rfl, ?_⟩) (by assumption) ?_
    rotate_left
    · (intro wS hSw; (try dsimp only at hSw); go_simp <;> with_reducible rfl)
    try simp only [Act.put, List.setIfInBounds_toArray, List.set_cons_zero, List.set_cons_succ, Nat.zero_add]
    refine wpHd_ready (rs := [5, 18]) (by kernel_rfl) (by simp) ?_
    refine (RdyHd.cons (by simp only [List.getElem?_toArray, List.getElem?_cons_succ, List.getElem?_cons_zero] <;> rfl) (by decide) (fun K hK => ?_) (RdyHd.cons (by simp only [List.getElem?_toArray, List.getElem?_cons_succ, List.getElem?_cons_zero] <;> rfl) (by decide) (fun K hK => ?_) RdyHd.nil))
    · go_simp
      go_at_call 32
      have ca := HS0.out.intsF (i := 0) rfl HOF.out
      refine ca.mono ?_
      rintro e w5 ⟨gf, df, rfl, hdf, h5⟩
      simp only [List.set_cons_zero] at h5
      have HS1 := Lib.hid h5
      clear ca h5 d4 d5 d9 d11
      have d4 := HS1.out.cell (i := 2) rfl 4 _ rfl; have d5 := HS1.out.cell (i := 2) rfl 5 _ rfl; have d9 := HS1.out.cell (i := 2) rfl 9 _ rfl; have d11 := HS1.out.cell (i := 2) rfl 11 _ rfl
      (try go_simp)
      refine hK.out _ _ ?_ (fun hHeld => ?_)
      · exact ⟨d4, d5, d9, d11⟩
      clear hK K
      try simp only [Act.put, List.setIfInBounds_toArray, List.set_cons_zero, List.set_cons_succ, Nat.zero_add]
      refine wpHd_ready (rs := [11, 18]) (by kernel_rfl) (by simp) ?_
      refine (RdyHd.cons (by simp only [List.getElem?_toArray, List.getElem?_cons_succ, List.getElem?_cons_zero] <;> rfl) (by decide) (fun K hK => ?_) (RdyHd.cons (by simp only [List.getElem?_toArray, List.getElem?_cons_succ, List.getElem?_cons_zero] <;> rfl) (by decide) (fun K hK => ?_) RdyHd.nil))
      · go_simp
        go_at_call 35
        have ca := HS1.out.arrayY (i := 0) rfl HOY.out
        simp only [Ar.v] at ca
        refine ca.mono ?_
        rintro e w6 ⟨gy, dy, ky, ey, rfl, hdy, hey, h5⟩
        simp only [List.set_cons_zero] at h5
        have HS2 := Lib.hid h5
        clear ca h5 d4 d5 d9 d11
        have d4 := HS2.out.cell (i := 2) rfl 4 _ rfl; have d5 := HS2.out.cell (i := 2) rfl 5 _ rfl; have d9 := HS2.out.cell (i := 2) rfl 9 _ rfl; have d11 := HS2.out.cell (i := 2) rfl 11 _ rfl
        (try go_simp)
        refine hK.out _ _ ?_ (fun hHeld => ?_)
        · exact ⟨d4, d5, d9, d11⟩
        clear hK K
        try simp only [Act.put, List.setIfInBounds_toArray, List.set_cons_zero, List.set_cons_succ, Nat.zero_add]
        refine wpHd_ready (rs := [14, 18]) (by kernel_rfl) (by simp) ?_
        refine (RdyHd.cons (by simp only [List.getElem?_toArray, List.getElem?_cons_succ, List.getElem?_cons_zero] <;> rfl) (by decide) (fun K hK => ?_) (RdyHd.cons (by simp only [List.getElem?_toArray, List.getElem?_cons_succ, List.getElem?_cons_zero] <;> rfl) (by decide) (fun K hK => ?_) RdyHd.nil))
        · go_simp
          go_at_call 24
          have ca := empty_any (HS2.out.isF (i := 0) rfl HOF.out hdf) (HS2.out.isY (i := 0) rfl HOY.out hdy hey) tl
          try simp only [Ar.v] at ca
          rw [HvS.out, HvE.out] at ca
          refine ca.mono ?_
          rintro e w7 ⟨B1, rfl, hI6, hB1, hT1, hO6, hb6⟩
          have HS3_ := HS2.out.arrNew hI6 hO6 hb6
          try simp only [List.cons_append, List.nil_append, List.set_cons_zero, List.set_cons_succ, List.map_cons, List.map_nil, List.getD_cons_zero, List.getD_cons_succ, World.size_alloc] at HS3_
          have HS3 := Lib.hid HS3_
          clear HS3_
          clear ca d4 d5 d9 d11
          have d4 := HS3.out.cell (i := 2) rfl 4 _ rfl; have d5 := HS3.out.cell (i := 2) rfl 5 _ rfl; have d9 := HS3.out.cell (i := 2) rfl 9 _ rfl; have d11 := HS3.out.cell (i := 2) rfl 11 _ rfl
          (try go_simp)
          (try simp only [Ar.v])
          refine hK.out _ _ ?_ (fun hHeld => ?_)
          · exact ⟨d4, d5, d9, d11⟩
          clear hK K
          try simp only [Act.put, List.setIfInBounds_toArray, List.set_cons_zero, List.set_cons_succ, Nat.zero_add]
          refine wpHd_take (i := 15) (v := ?_) (by kernel_rfl) (by simp only [List.getElem?_toArray, List.getElem?_cons_succ, List.getElem?_cons_zero] <;> rfl) (by kernel_rfl) (fun _ _ _ h => h) (Or.inl ⟨by rfl, ?_⟩) (by assumption) ?_
          rotate_left
          · (intro wS hSw; (try dsimp only at hSw); go_simp <;> with_reducible rfl)
          try simp only [Act.put, List.setIfInBounds_toArray, List.set_cons_zero, List.set_cons_succ, Nat.zero_add]
          refine wpHd_take (i := 16) (v := ?_) (by kernel_rfl) (by simp only [List.getElem?_toArray, List.getElem?_cons_succ, List.getElem?_cons_zero] <;> rfl) (by kernel_rfl) (fun _ _ _ h => h) (Or.inl ⟨by rfl, ?_⟩) (by assumption) ?_
          rotate_left
          · (intro wS hSw; (try dsimp only at hSw); go_simp <;> with_reducible rfl)
          try simp only [Act.put, List.setIfInBounds_toArray, List.set_cons_zero, List.set_cons_succ, Nat.zero_add]
          refine wpHd_take (i := 17) (v := ?_) (by kernel_rfl) (by simp only [List.getElem?_toArray, List.getElem?_cons_succ, List.getElem?_cons_zero] <;> rfl) (by kernel_rfl) (fun _ _ _ h => h) (Or.inl ⟨by rfl, ?_⟩) (by assumption) ?_
          rotate_left
          · (intro wS hSw; (try dsimp only at hSw); go_simp <;> with_reducible rfl)
          try simp only [Act.put, List.setIfInBounds_toArray, List.set_cons_zero, List.set_cons_succ, Nat.zero_add]
          refine wpHd_ready (rs := [18]) (by kernel_rfl) (by simp) ?_
          refine (RdyHd.cons (by simp only [List.getElem?_toArray, List.getElem?_cons_succ, List.getElem?_cons_zero] <;> rfl) (by decide) (fun K hK => ?_) RdyHd.nil)
          · go_simp
            have HS4_ := HS3.out.alloc 45 2 1 #[.slice none 0 0, .slice none 0 0] rfl (by decide)
            try simp only [List.cons_append, List.nil_append, List.set_cons_zero, List.set_cons_succ, List.map_cons, List.map_nil, List.getD_cons_zero, List.getD_cons_succ, World.size_alloc] at HS4_
            have HS4 := Lib.hid HS4_
            clear HS4_
            clear d4 d5 d9 d11
            have d4 := HS4.out.cell (i := 2) rfl 4 _ rfl; have d5 := HS4.out.cell (i := 2) rfl 5 _ rfl; have d9 := HS4.out.cell (i := 2) rfl 9 _ rfl; have d11 := HS4.out.cell (i := 2) rfl 11 _ rfl
            refine hK.out _ _ ?_ (fun hHeld => ?_)
            · exact ⟨d4, d5, d9, d11⟩
            clear hK K
            try simp only [Act.put, List.setIfInBounds_toArray, List.set_cons_zero, List.set_cons_succ, Nat.zero_add]
            refine wpHd_ready (rs := [19]) (by kernel_rfl) (by simp) ?_
            refine (RdyHd.cons (by simp only [List.getElem?_toArray, List.getElem?_cons_succ, List.getElem?_cons_zero] <;> rfl) (by decide) (fun K hK => ?_) RdyHd.nil)
            · have c0 := HS4.out.cell (i := 4) rfl 0 _ rfl; have f0 := HS4.out.frozen (i := 4) rfl 0; have c1 := HS4.out.cell (i := 4) rfl 1 _ rfl; have f1 := HS4.out.frozen (i := 4) rfl 1
              go_simp
              have HS5_ := HS3.out.alloc 45 2 1 #[.slice B1.sa B1.sn B1.sc, .slice B1.aa B1.an B1.ac] rfl (by decide)
              try simp only [List.cons_append, List.nil_append, List.set_cons_zero, List.set_cons_succ, List.map_cons, List.map_nil, List.getD_cons_zero, List.getD_cons_succ, World.size_alloc] at HS5_
              have HS5 := Lib.hid HS5_
              clear HS5_
              clear c0 f0 c1 f1 d4 d5 d9 d11
              have d4 := HS5.out.cell (i := 2) rfl 4 _ rfl; have d5 := HS5.out.cell (i := 2) rfl 5 _ rfl; have d9 := HS5.out.cell (i := 2) rfl 9 _ rfl; have d11 := HS5.out.cell (i := 2) rfl 11 _ rfl
              refine hK.out _ _ ?_ (fun hHeld => ?_)
              · exact ⟨d4, d5, d9, d11⟩
              clear hK K
              try simp only [Act.put, List.setIfInBounds_toArray, List.set_cons_zero, List.set_cons_succ, Nat.zero_add]
              refine wpHd_done (by kernel_rfl) ?_
              simp only [List.drop_succ_cons, List.drop_zero]
              go_wp2_with fail
              refine NoPanic.normal ?_
              go_wp2_with fail
              go_meet
              exact ⟨w7.heap.size, gf, df, gy, dy, ky, ey, B1, rfl, rfl, ⟨hB1, hT1⟩, HS5.out.pick [0, 1, 2, 3, 4] (by decide)⟩
        · go_simp
          have HS3_ := HS2.out.alloc 45 2 1 #[.slice none 0 0, .slice none 0 0] rfl (by decide)
          try simp only [List.cons_append, List.nil_append, List.set_cons_zero, List.set_cons_succ, List.map_cons, List.map_nil, List.getD_cons_zero, List.getD_cons_succ, World.size_alloc] at HS3_
          have HS3 := Lib.hid HS3_
          clear HS3_
          clear d4 d5 d9 d11
          have d4 := HS3.out.cell (i := 2) rfl 4 _ rfl; have d5 := HS3.out.cell (i := 2) rfl 5 _ rfl; have d9 := HS3.out.cell (i := 2) rfl 9 _ rfl; have d11 := HS3.out.cell (i := 2) rfl 11 _ rfl
          refine hK.out _ _ ?_ (fun hHeld => ?_)
          · exact ⟨d4, d5, d9, d11⟩
          clear hK K
          try simp only [Act.put, List.setIfInBounds_toArray, List.set_cons_zero, List.set_cons_succ, Nat.zero_add]
          refine wpHd_ready (rs := [14]) (by kernel_rfl) (by simp) ?_
          refine (RdyHd.cons (by simp only [List.getElem?_toArray, List.getElem?_cons_succ, List.getElem?_cons_zero] <;> rfl) (by decide) (fun K hK => ?_) RdyHd.nil)
          · go_simp
            go_at_call 24
            have ca := empty_any (HS3.out.isF (i := 0) rfl HOF.out hdf) (HS3.out.isY (i := 0) rfl HOY.out hdy hey) tl
            try simp only [Ar.v] at ca
            rw [HvS.out, HvE.out] at ca
            refine ca.mono ?_
            rintro e w7 ⟨B1, rfl, hI6, hB1, hT1, hO6, hb6⟩
            have HS4_ := HS3.out.arrNew hI6 hO6 hb6
            try simp only [List.cons_append, List.nil_append, List.set_cons_zero, List.set_cons_succ, List.map_cons, List.map_nil, List.getD_cons_zero, List.getD_cons_succ, World.size_alloc] at HS4_
            have HS4 := Lib.hid HS4_
            clear HS4_
            clear ca d4 d5 d9 d11
            have d4 := HS4.out.cell (i := 2) rfl 4 _ rfl; have d5 := HS4.out.cell (i := 2) rfl 5 _ rfl; have d9 := HS4.out.cell (i := 2) rfl 9 _ rfl; have d11 := HS4.out.cell (i := 2) rfl 11 _ rfl
            (try go_simp)
            (try simp only [Ar.v])
            refine hK.out _ _ ?_ (fun hHeld => ?_)
            · exact ⟨d4, d5, d9, d11⟩
            clear hK K
            try simp only [Act.put, List.setIfInBounds_toArray, List.set_cons_zero, List.set_cons_succ, Nat.zero_add]
            refine wpHd_take (i := 15) (v := ?_) (by kernel_rfl) (by simp only [List.getElem?_toArray, List.getElem?_cons_succ, List.getElem?_cons_zero] <;> rfl) (by kernel_rfl) (fun _ _ _ h => h) (Or.inl ⟨by rfl, ?_⟩) (by assumption) ?_
            rotate_left
            · (intro wS hSw; (try dsimp only at hSw); go_simp <;> with_reducible rfl)
            try simp only [Act.put, List.setIfInBounds_toArray, List.set_cons_zero, List.set_cons_succ, Nat.zero_add]
            refine wpHd_take (i := 16) (v := ?_) (by kernel_rfl) (by simp only [List.getElem?_toArray, List.getElem?_cons_succ, List.getElem?_cons_zero] <;> rfl) (by kernel_rfl) (fun _ _ _ h => h) (Or.inl ⟨by rfl, ?_⟩) (by assumption) ?_
            rotate_left
            · (intro wS hSw; (try dsimp only at hSw); go_simp <;> with_reducible rfl)
            try simp only [Act.put, List.setIfInBounds_toArray, List.set_cons_zero, List.set_cons_succ, Nat.zero_add]
            refine wpHd_take (i := 17) (v := ?_) (by kernel_rfl) (by simp only [List.getElem?_toArray, List.getElem?_cons_succ, List.getElem?_cons_zero] <;> rfl) (by kernel_rfl) (fun _ _ _ h => h) (Or.inl ⟨by rfl, ?_⟩) (by assumption) ?_
            rotate_left
            · (intro wS hSw; (try dsimp only at hSw); go_simp <;> with_reducible rfl)
            try simp only [Act.put, List.setIfInBounds_toArray, List.set_cons_zero, List.set_cons_succ, Nat.zero_add]
            refine wpHd_ready (rs := [19]) (by kernel_rfl) (by simp) ?_
            refine (RdyHd.cons (by simp only [List.getElem?_toArray, List.getElem?_cons_succ, List.getElem?_cons_zero] <;> rfl) (by decide) (fun K hK => ?_) RdyHd.nil)
            · have c0 := HS4.out.cell (i := 3) rfl 0 _ rfl; have f0 := HS4.out.frozen (i := 3) rfl 0; have c1 := HS4.out.cell (i := 3) rfl 1 _ rfl; have f1 := HS4.out.frozen (i := 3) rfl 1
              go_simp
              have HS5_ := ((HS4.out.put (i := 3) rfl 0 (.slice B1.sa B1.sn B1.sc)).put (i := 3) rfl 1 (.slice B1.aa B1.an B1.ac))
              try simp only [List.cons_append, List.nil_append, List.set_cons_zero, List.set_cons_succ, List.map_cons, List.map_nil, List.getD_cons_zero, List.getD_cons_succ, World.size_alloc] at HS5_
              have HS5 := Lib.hid HS5_
              clear HS5_
              clear c0 f0 c1 f1 d4 d5 d9 d11
              have d4 := HS5.out.cell (i := 2) rfl 4 _ rfl; have d5 := HS5.out.cell (i := 2) rfl 5 _ rfl; have d9 := HS5.out.cell (i := 2) rfl 9 _ rfl; have d11 := HS5.out.cell (i := 2) rfl 11 _ rfl
              refine hK.out _ _ ?_ (fun hHeld => ?_)
              · exact ⟨d4, d5, d9, d11⟩
              clear hK K
              try simp only [Act.put, List.setIfInBounds_toArray, List.set_cons_zero, List.set_cons_succ, Nat.zero_add]
              refine wpHd_done (by kernel_rfl) ?_
              simp only [List.drop_succ_cons, List.drop_zero]
              go_wp2_with fail
              refine NoPanic.normal ?_
              go_wp2_with fail
              go_meet
              exact ⟨w6.heap.size, gf, df, gy, dy, ky, ey, B1, rfl, rfl, ⟨hB1, hT1⟩, HS5.out.pick [0, 1, 2, 4, 3] (by decide)⟩
      · go_simp
        have HS2_ := HS1.out.alloc 45 2 1 #[.slice none 0 0, .slice none 0 0] rfl (by decide)
        try simp only [List.cons_append, List.nil_append, List.set_cons_zero, List.set_cons_succ, List.map_cons, List.map_nil, List.getD_cons_zero, List.getD_cons_succ, World.size_alloc] at HS2_
        have HS2 := Lib.hid HS2_
        clear HS2_
        clear d4 d5 d9 d11
        have d4 := HS2.out.cell (i := 2) rfl 4 _ rfl; have d5 := HS2.out.cell (i := 2) rfl 5 _ rfl; have d9 := HS2.out.cell (i := 2) rfl 9 _ rfl; have d11 := HS2.out.cell (i := 2) rfl 11 _ rfl
        refine hK.out _ _ ?_ (fun hHeld => ?_)
        · exact ⟨d4, d5, d9, d11⟩
        clear hK K
        try simp only [Act.put, List.setIfInBounds_toArray, List.set_cons_zero, List.set_cons_succ, Nat.zero_add]
        refine wpHd_ready (rs := [11]) (by kernel_rfl) (by simp) ?_
        refine (RdyHd.cons (by simp only [List.getElem?_toArray, List.getElem?_cons_succ, List.getElem?_cons_zero] <;> rfl) (by decide) (fun K hK => ?_) RdyHd.nil)
        · go_simp
          go_at_call 35
          have ca := HS2.out.arrayY (i := 0) rfl HOY.out
          simp only [Ar.v] at ca
          refine ca.mono ?_
          rintro e w6 ⟨gy, dy, ky, ey, rfl, hdy, hey, h5⟩
          simp only [List.set_cons_zero] at h5
          have HS3 := Lib.hid h5
          clear ca h5 d4 d5 d9 d11
          have d4 := HS3.out.cell (i := 2) rfl 4 _ rfl; have d5 := HS3.out.cell (i := 2) rfl 5 _ rfl; have d9 := HS3.out.cell (i := 2) rfl 9 _ rfl; have d11 := HS3.out.cell (i := 2) rfl 11 _ rfl
          (try go_simp)
          refine hK.out _ _ ?_ (fun hHeld => ?_)
          · exact ⟨d4, d5, d9, d11⟩
          clear hK K
          try simp only [Act.put, List.setIfInBounds_toArray, List.set_cons_zero, List.set_cons_succ, Nat.zero_add]
          refine wpHd_ready (rs := [14]) (by kernel_rfl) (by simp) ?_
          refine (RdyHd.cons (by simp only [List.getElem?_toArray, List.getElem?_cons_succ, List.getElem?_cons_zero] <;> rfl) (by decide) (fun K hK => ?_) RdyHd.nil)
          · go_simp
            go_at_call 24
            have ca := empty_any (HS3.out.isF (i := 0) rfl HOF.out hdf) (HS3.out.isY (i := 0) rfl HOY.out hdy hey) tl
            try simp only [Ar.v] at ca
            rw [HvS.out, HvE.out] at ca
            refine ca.mono ?_
            rintro e w7 ⟨B1, rfl, hI6, hB1, hT1, hO6, hb6⟩
            have HS4_ := HS3.out.arrNew hI6 hO6 hb6
            try simp only [List.cons_append, List.nil_append, List.set_cons_zero, List.set_cons_succ, List.map_cons, List.map_nil, List.getD_cons_zero, List.getD_cons_succ, World.size_alloc] at HS4_
            have HS4 := Lib.hid HS4_
            clear HS4_
            clear ca d4 d5 d9 d11
            have d4 := HS4.out.cell (i := 2) rfl 4 _ rfl; have d5 := HS4.out.cell (i := 2) rfl 5 _ rfl; have d9 := HS4.out.cell (i := 2) rfl 9 _ rfl; have d11 := HS4.out.cell (i := 2) rfl 11 _ rfl
            (try go_simp)
            (try simp only [Ar.v])
            refine hK.out _ _ ?_ (fun hHeld => ?_)
            · exact ⟨d4, d5, d9, d11⟩
            clear hK K
            try simp only [Act.put, List.setIfInBounds_toArray, List.set_cons_zero, List.set_cons_succ, Nat.zero_add]
            refine wpHd_take (i := 15) (v := ?_) (by kernel_rfl) (by simp only [List.getElem?_toArray, List.getElem?_cons_succ, List.getElem?_cons_zero] <;> rfl) (by kernel_rfl) (fun _ _ _ h => h) (Or.inl ⟨by rfl, ?_⟩) (by assumption) ?_
            rotate_left
            · (intro wS hSw; (try dsimp only at hSw); go_simp <;> with_reducible rfl)
            try simp only [Act.put, List.setIfInBounds_toArray, List.set_cons_zero, List.set_cons_succ, Nat.zero_add]
            refine wpHd_take (i := 16) (v := ?_) (by kernel_rfl) (by simp only [List.getElem?_toArray, List.getElem?_cons_succ, List.getElem?_cons_zero] <;> rfl) (by kernel_rfl) (fun _ _ _ h => h) (Or.inl ⟨by rfl, ?_⟩) (by assumption) ?_
            rotate_left
            · (intro wS hSw; (try dsimp only at hSw); go_simp <;> with_reducible rfl)
            try simp only [Act.put, List.setIfInBounds_toArray, List.set_cons_zero, List.set_cons_succ, Nat.zero_add]
            refine wpHd_take (i := 17) (v := ?_) (by kernel_rfl) (by simp only [List.getElem?_toArray, List.getElem?_cons_succ, List.getElem?_cons_zero] <;> rfl) (by kernel_rfl) (fun _ _ _ h => h) (Or.inl ⟨by rfl, ?_⟩) (by assumption) ?_
            rotate_left
            · (intro wS hSw; (try dsimp only at hSw); go_simp <;> with_reducible rfl)
            try simp only [Act.put, List.setIfInBounds_toArray, List.set_cons_zero, List.set_cons_succ, Nat.zero_add]
            refine wpHd_ready (rs := [19]) (by kernel_rfl) (by simp) ?_
            refine (RdyHd.cons (by simp only [List.getElem?_toArray, List.getElem?_cons_succ, List.getElem?_cons_zero] <;> rfl) (by decide) (fun K hK => ?_) RdyHd.nil)
            · have c0 := HS4.out.cell (i := 3) rfl 0 _ rfl; have f0 := HS4.out.frozen (i := 3) rfl 0; have c1 := HS4.out.cell (i := 3) rfl 1 _ rfl; have f1 := HS4.out.frozen (i := 3) rfl 1
              go_simp
              have HS5_ := ((HS4.out.put (i := 3) rfl 0 (.slice B1.sa B1.sn B1.sc)).put (i := 3) rfl 1 (.slice B1.aa B1.an B1.ac))
              try simp only [List.cons_append, List.nil_append, List.set_cons_zero, List.set_cons_succ, List.map_cons, List.map_nil, List.getD_cons_zero, List.getD_cons_succ, World.size_alloc] at HS5_
              have HS5 := Lib.hid HS5_
              clear HS5_
              clear c0 f0 c1 f1 d4 d5 d9 d11
              have d4 := HS5.out.cell (i := 2) rfl 4 _ rfl; have d5 := HS5.out.cell (i := 2) rfl 5 _ rfl; have d9 := HS5.out.cell (i := 2) rfl 9 _ rfl; have d11 := HS5.out.cell (i := 2) rfl 11 _ rfl
              refine hK.out _ _ ?_ (fun hHeld => ?_)
              · exact ⟨d4, d5, d9, d11⟩
              clear hK K
              try simp only [Act.put, List.setIfInBounds_toArray, List.set_cons_zero, List.set_cons_succ, Nat.zero_add]
              refine wpHd_done (by kernel_rfl) ?_
              simp only [List.drop_succ_cons, List.drop_zero]
              go_wp2_with fail
              refine NoPanic.normal ?_
              go_wp2_with fail
              go_meet
              exact ⟨w5.heap.size, gf, df, gy, dy, ky, ey, B1, rfl, rfl, ⟨hB1, hT1⟩, HS5.out.pick [0, 1, 2, 4, 3] (by decide)⟩
    · go_simp
      have HS1_ := (HSA.out.alloc 45 2 1 #[.slice none 0 0, .slice none 0 0] rfl (by decide)).via (adrew1 _)
      try simp only [List.cons_append, List.nil_append, List.set_cons_zero, List.set_cons_succ, List.map_cons, List.map_nil, List.getD_cons_zero, List.getD_cons_succ, World.size_alloc] at HS1_
      have HS1 := Lib.hid HS1_
      clear HS1_
      clear d4 d5 d9 d11
      have d4 := HS1.out.cell (i := 2) rfl 4 _ rfl; have d5 := HS1.out.cell (i := 2) rfl 5 _ rfl; have d9 := HS1.out.cell (i := 2) rfl 9 _ rfl; have d11 := HS1.out.cell (i := 2) rfl 11 _ rfl
      refine hK.out _ _ ?_ (fun hHeld => ?_)
      · exact ⟨d4, d5, d9, d11⟩
      clear hK K
      try simp only [Act.put, List.setIfInBounds_toArray, List.set_cons_zero, List.set_cons_succ, Nat.zero_add]
      refine wpHd_ready (rs := [5]) (by kernel_rfl) (by simp) ?_
      refine (RdyHd.cons (by simp only [List.getElem?_toArray, List.getElem?_cons_succ, List.getElem?_cons_zero] <;> rfl) (by decide) (fun K hK => ?_) RdyHd.nil)
      · go_simp
        go_at_call 32
        have ca := HS1.out.intsF (i := 0) rfl HOF.out
        refine ca.mono ?_
        rintro e w5 ⟨gf, df, rfl, hdf, h5⟩
        simp only [List.set_cons_zero] at h5
        have HS2 := Lib.hid h5
        clear ca h5 d4 d5 d9 d11
        have d4 := HS2.out.cell (i := 2) rfl 4 _ rfl; have d5 := HS2.out.cell (i := 2) rfl 5 _ rfl; have d9 := HS2.out.cell (i := 2) rfl 9 _ rfl; have d11 := HS2.out.cell (i := 2) rfl 11 _ rfl
        (try go_simp)
        refine hK.out _ _ ?_ (fun hHeld => ?_)
        · exact ⟨d4, d5, d9, d11⟩
        clear hK K
        try simp only [Act.put, List.setIfInBounds_toArray, List.set_cons_zero, List.set_cons_succ, Nat.zero_add]
        refine wpHd_ready (rs := [11]) (by kernel_rfl) (by simp) ?_
        refine (RdyHd.cons (by simp only [List.getElem?_toArray, List.getElem?_cons_succ, List.getElem?_cons_zero] <;> rfl) (by decide) (fun K hK => ?_) RdyHd.nil)
        · go_simp
          go_at_call 35
          have ca := HS2.out.arrayY (i := 0) rfl HOY.out
          simp only [Ar.v] at ca
          refine ca.mono ?_
          rintro e w6 ⟨gy, dy, ky, ey, rfl, hdy, hey, h5⟩
          simp only [List.set_cons_zero] at h5
          have HS3 := Lib.hid h5
          clear ca h5 d4 d5 d9 d11
          have d4 := HS3.out.cell (i := 2) rfl 4 _ rfl; have d5 := HS3.out.cell (i := 2) rfl 5 _ rfl; have d9 := HS3.out.cell (i := 2) rfl 9 _ rfl; have d11 := HS3.out.cell (i := 2) rfl 11 _ rfl
          (try go_simp)
          refine hK.out _ _ ?_ (fun hHeld => ?_)
          · exact ⟨d4, d5, d9, d11⟩
          clear hK K
          try simp only [Act.put, List.setIfInBounds_toArray, List.set_cons_zero, List.set_cons_succ, Nat.zero_add]
          refine wpHd_ready (rs := [14]) (by kernel_rfl) (by simp) ?_
          refine (RdyHd.cons (by simp only [List.getElem?_toArray, List.getElem?_cons_succ, List.getElem?_cons_zero] <;> rfl) (by decide) (fun K hK => ?_) RdyHd.nil)
          · go_simp
            go_at_call 24
            have ca := empty_any (HS3.out.isF (i := 0) rfl HOF.out hdf) (HS3.out.isY (i := 0) rfl HOY.out hdy hey) tl
            try simp only [Ar.v] at ca
            rw [HvS.out, HvE.out] at ca
            refine ca.mono ?_
            rintro e w7 ⟨B1, rfl, hI6, hB1, hT1, hO6, hb6⟩
            have HS4_ := HS3.out.arrNew hI6 hO6 hb6
            try simp only [List.cons_append, List.nil_append, List.set_cons_zero, List.set_cons_succ, List.map_cons, List.map_nil, List.getD_cons_zero, List.getD_cons_succ, World.size_alloc] at HS4_
            have HS4 := Lib.hid HS4_
            clear HS4_
            clear ca d4 d5 d9 d11
            have d4 := HS4.out.cell (i := 2) rfl 4 _ rfl; have d5 := HS4.out.cell (i := 2) rfl 5 _ rfl; have d9 := HS4.out.cell (i := 2) rfl 9 _ rfl; have d11 := HS4.out.cell (i := 2) rfl 11 _ rfl
            (try go_simp)
            (try simp only [Ar.v])
            refine hK.out _ _ ?_ (fun hHeld => ?_)
            · exact ⟨d4, d5, d9, d11⟩
            clear hK K
            try simp only [Act.put, List.setIfInBounds_toArray, List.set_cons_zero, List.set_cons_succ, Nat.zero_add]
            refine wpHd_take (i := 15) (v := ?_) (by kernel_rfl) (by simp only [List.getElem?_toArray, List.getElem?_cons_succ, List.getElem?_cons_zero] <;> rfl) (by kernel_rfl) (fun _ _ _ h => h) (Or.inl ⟨by rfl, ?_⟩) (by assumption) ?_
            rotate_left
            · (intro wS hSw; (try dsimp only at hSw); go_simp <;> with_reducible rfl)
            try simp only [Act.put, List.setIfInBounds_toArray, List.set_cons_zero, List.set_cons_succ, Nat.zero_add]
            refine wpHd_take (i := 16) (v := ?_) (by kernel_rfl) (by simp only [List.getElem?_toArray, List.getElem?_cons_succ, List.getElem?_cons_zero] <;> rfl) (by kernel_rfl) (fun _ _ _ h => h) (Or.inl ⟨by rfl, ?_⟩) (by assumption) ?_
            rotate_left
            · (intro wS hSw; (try dsimp only at hSw); go_simp <;> with_reducible rfl)
            try simp only [Act.put, List.setIfInBounds_toArray, List.set_cons_zero, List.set_cons_succ, Nat.zero_add]
            refine wpHd_take (i := 17) (v := ?_) (by kernel_rfl) (by simp only [List.getElem?_toArray, List.getElem?_cons_succ, List.getElem?_cons_zero] <;> rfl) (by kernel_rfl) (fun _ _ _ h => h) (Or.inl ⟨by rfl, ?_⟩) (by assumption) ?_
            rotate_left
            · (intro wS hSw; (try dsimp only at hSw); go_simp <;> with_reducible rfl)
            try simp only [Act.put, List.setIfInBounds_toArray, List.set_cons_zero, List.set_cons_succ, Nat.zero_add]
            refine wpHd_ready (rs := [19]) (by kernel_rfl) (by simp) ?_
            refine (RdyHd.cons (by simp only [List.getElem?_toArray, List.getElem?_cons_succ, List.getElem?_cons_zero] <;> rfl) (by decide) (fun K hK => ?_) RdyHd.nil)
            · have c0 := HS4.out.cell (i := 3) rfl 0 _ rfl; have f0 := HS4.out.frozen (i := 3) rfl 0; have c1 := HS4.out.cell (i := 3) rfl 1 _ rfl; have f1 := HS4.out.frozen (i := 3) rfl 1
              go_simp
              have HS5_ := ((HS4.out.put (i := 3) rfl 0 (.slice B1.sa B1.sn B1.sc)).put (i := 3) rfl 1 (.slice B1.aa B1.an B1.ac))
              try simp only [List.cons_append, List.nil_append, List.set_cons_zero, List.set_cons_succ, List.map_cons, List.map_nil, List.getD_cons_zero, List.getD_cons_succ, World.size_alloc] at HS5_
              have HS5 := Lib.hid HS5_
              clear HS5_
              clear c0 f0 c1 f1 d4 d5 d9 d11
              have d4 := HS5.out.cell (i := 2) rfl 4 _ rfl; have d5 := HS5.out.cell (i := 2) rfl 5 _ rfl; have d9 := HS5.out.cell (i := 2) rfl 9 _ rfl; have d11 := HS5.out.cell (i := 2) rfl 11 _ rfl
              refine hK.out _ _ ?_ (fun hHeld => ?_)
              · exact ⟨d4, d5, d9, d11⟩
              clear hK K
              try simp only [Act.put, List.setIfInBounds_toArray, List.set_cons_zero, List.set_cons_succ, Nat.zero_add]
              refine wpHd_done (by kernel_rfl) ?_
              simp only [List.drop_succ_cons, List.drop_zero]
              go_wp2_with fail
              refine NoPanic.normal ?_
              go_wp2_with fail
              go_meet
              exact ⟨w3.heap.size, gf, df, gy, dy, ky, ey, B1, rfl, rfl, ⟨hB1, hT1⟩, HS5.out.pick [0, 1, 2, 4, 3] (by decide)⟩
  case rest =>
    obtain ⟨gb, gf, df, gy, dy, ky, ey, B1, rfl, rfl, HF1, HQ0⟩ := hcut
    obtain ⟨w10, hU⟩ : ∃ z : World, z = wc := ⟨_, rfl⟩
    subst hU
    clear d4 d5 d9 d11 HSA HS0 H1
    go_upto_region 31 with fail
    have HK0_ := HQ0.out.via (adrew1 w10)
    try simp only [List.cons_append, List.nil_append, List.set_cons_zero, List.set_cons_succ, List.map_cons, List.map_nil, List.getD_cons_zero, List.getD_cons_succ, World.size_alloc] at HK0_
    have HK0 := Lib.hid HK0_
    clear HK0_
    have d9 := HK0.out.cell (i := 2) rfl 9 _ rfl
    refine wp_region_noPanic ?_
    refine wp_region_hd (S := (fun wS => wS.cell? ⟨b, 9, none⟩ = some (.slice po pn pc))) 6 (by kernel_rfl) (by kernel_rfl) ?_ (fun hHeld => ?_)
    · exact d9
    refine wpHd_take (i := 0) (v := ?_) (by kernel_rfl) (by simp only [List.getElem?_toArray, List.getElem?_cons_succ, List.getElem?_cons_zero] <;> rfl) (by kernel_rfl) (fun _ _ _ h => h) (Or.inl ⟨by rfl, ?_⟩) (by assumption) ?_
    rotate_left
    · (intro wS hSw; (try dsimp only at hSw); go_simp <;> with_reducible rfl)
    try simp only [Act.put, List.setIfInBounds_toArray, List.set_cons_zero, List.set_cons_succ, Nat.zero_add]
    refine wpHd_take (i := 1) (v := ?_) (by kernel_rfl) (by simp only [List.getElem?_toArray, List.getElem?_cons_succ, List.getElem?_cons_zero] <;> rfl) (by kernel_rfl) (fun _ _ _ h => h) (Or.inl ⟨by rfl, ?_⟩) (by assumption) ?_
    rotate_left
    · (intro wS hSw; (try dsimp only at hSw); go_simp <;> with_reducible rfl)
    try simp only [Act.put, List.setIfInBounds_toArray, List.set_cons_zero, List.set_cons_succ, Nat.zero_add]
    refine wpHd_take (i := 2) (v := ?_) (by kernel_rfl) (by simp only [List.getElem?_toArray, List.getElem?_cons_succ, List.getElem?_cons_zero] <;> rfl) (by kernel_rfl) (fun _ _ _ h => h) (Or.inl ⟨by rfl, ?_⟩) (by assumption) ?_
    rotate_left
    · (intro wS hSw; (try dsimp only at hSw); go_simp <;> with_reducible rfl)
    try simp only [Act.put, List.setIfInBounds_toArray, List.set_cons_zero, List.set_cons_succ, Nat.zero_add]
    refine wpHd_take (i := 3) (v := ?_) (by kernel_rfl) (by simp only [List.getElem?_toArray, List.getElem?_cons_succ, List.getElem?_cons_zero] <;> rfl) (by kernel_rfl) (fun _ _ _ h => h) (Or.inl ⟨by rfl, ?_⟩) (by assumption) ?_
    rotate_left
    · (intro wS hSw; (try dsimp only at hSw); go_simp <;> with_reducible rfl)
    try simp only [Act.put, List.setIfInBounds_toArray, List.set_cons_zero, List.set_cons_succ, Nat.zero_add]
    refine wpHd_take (i := 4) (v := ?_) (by kernel_rfl) (by simp only [List.getElem?_toArray, List.getElem?_cons_succ, List.getElem?_cons_zero] <;> rfl) (by kernel_rfl) (fun _ _ _ h => h) (Or.inl ⟨by rfl, ?_⟩) (by assumption) ?_
    rotate_left
    · (intro wS hSw; (try dsimp only at hSw); go_simp <;> with_reducible rfl)
    try simp only [Act.put, List.setIfInBounds_toArray, List.set_cons_zero, List.set_cons_succ, Nat.zero_add]
    refine wpHd_ready (rs := [5]) (by kernel_rfl) (by simp) ?_
    refine (RdyHd.cons (by simp only [List.getElem?_toArray, List.getElem?_cons_succ, List.getElem?_cons_zero] <;> rfl) (by decide) (fun K hK => ?_) RdyHd.nil)
    · go_simp
      go_at_call 33
      have ca := HK0.out.keptF (i := 0) rfl HOF.out
      refine ca.mono ?_
      rintro e w11 ⟨rfl, h5⟩
      have HQ1_ := h5
      try simp only [List.cons_append, List.nil_append, List.set_cons_zero, List.set_cons_succ, List.map_cons, List.map_nil, List.getD_cons_zero, List.getD_cons_succ, World.size_alloc] at HQ1_
      have HQ1 := Lib.hid HQ1_
      clear HQ1_
      clear ca h5 d9
      have d9 := HQ1.out.cell (i := 2) rfl 9 _ rfl
      (try go_simp)
      refine hK.out _ _ ?_ (fun hHeld => ?_)
      · exact d9
      clear hK K
      try simp only [Act.put, List.setIfInBounds_toArray, List.set_cons_zero, List.set_cons_succ, Nat.zero_add]
      refine wpHd_done (by kernel_rfl) ?_
      simp only [List.drop_succ_cons, List.drop_zero]
      go_wp2_with fail
      refine NoPanic.normal ?_
      clear d9 HK0
      go_wp2_with fail
      go_upto_region 32 with fail
      have HK1_ := HQ1.out.via (adrew1 w11)
      try simp only [List.cons_append, List.nil_append, List.set_cons_zero, List.set_cons_succ, List.map_cons, List.map_nil, List.getD_cons_zero, List.getD_cons_succ, World.size_alloc] at HK1_
      have HK1 := Lib.hid HK1_
      clear HK1_
      have d4 := HK1.out.cell (i := 2) rfl 4 _ rfl; have d5 := HK1.out.cell (i := 2) rfl 5 _ rfl
      refine wp_region_noPanic ?_
      refine wp_region_hd (S := (fun wS => wS.cell? ⟨b, 4, none⟩ = some (.slice y1 y2 y3) ∧ wS.cell? ⟨b, 5, none⟩ = some (.slice y4 y5 y6))) 6 (by kernel_rfl) (by kernel_rfl) ?_ (fun hHeld => ?_)
      · exact ⟨d4, d5⟩
      refine wpHd_take (i := 0) (v := ?_) (by kernel_rfl) (by simp only [List.getElem?_toArray, List.getElem?_cons_succ, List.getElem?_cons_zero] <;> rfl) (by kernel_rfl) (fun _ _ _ h => h) (Or.inl ⟨by rfl, ?_⟩) (by assumption) ?_
      rotate_left
      · (intro wS hSw; (try dsimp only at hSw); go_simp <;> with_reducible rfl)
      try simp only [Act.put, List.setIfInBounds_toArray, List.set_cons_zero, List.set_cons_succ, Nat.zero_add]
      refine wpHd_take (i := 1) (v := ?_) (by kernel_rfl) (by simp only [List.getElem?_toArray, List.getElem?_cons_succ, List.getElem?_cons_zero] <;> rfl) (by kernel_rfl) (fun _ _ _ h => h) (Or.inl ⟨by rfl, ?_⟩) (by assumption) ?_
      rotate_left
      · (intro wS hSw; (try dsimp only at hSw); go_simp <;> with_reducible rfl)
      try simp only [Act.put, List.setIfInBounds_toArray, List.set_cons_zero, List.set_cons_succ, Nat.zero_add]
      refine wpHd_take (i := 2) (v := ?_) (by kernel_rfl) (by simp only [List.getElem?_toArray, List.getElem?_cons_succ, List.getElem?_cons_zero] <;> rfl) (by kernel_rfl) (fun _ _ _ h => h) (Or.inl ⟨by rfl, ?_⟩) (by assumption) ?_
      rotate_left
      · (intro wS hSw; (try dsimp only at hSw); go_simp <;> with_reducible rfl)
      try simp only [Act.put, List.setIfInBounds_toArray, List.set_cons_zero, List.set_cons_succ, Nat.zero_add]
      refine wpHd_take (i := 3) (v := ?_) (by kernel_rfl) (by simp only [List.getElem?_toArray, List.getElem?_cons_succ, List.getElem?_cons_zero] <;> rfl) (by kernel_rfl) (fun _ _ _ h => h) (Or.inl ⟨by rfl, ?_⟩) (by assumption) ?_
      rotate_left
      · (intro wS hSw; (try dsimp only at hSw); go_simp <;> with_reducible rfl)
      try simp only [Act.put, List.setIfInBounds_toArray, List.set_cons_zero, List.set_cons_succ, Nat.zero_add]
      refine wpHd_take (i := 4) (v := ?_) (by kernel_rfl) (by simp only [List.getElem?_toArray, List.getElem?_cons_succ, List.getElem?_cons_zero] <;> rfl) (by kernel_rfl) (fun _ _ _ h => h) (Or.inl ⟨by rfl, ?_⟩) (by assumption) ?_
      rotate_left
      · (intro wS hSw; (try dsimp only at hSw); go_simp <;> with_reducible rfl)
      try simp only [Act.put, List.setIfInBounds_toArray, List.set_cons_zero, List.set_cons_succ, Nat.zero_add]
      refine wpHd_ready (rs := [5]) (by kernel_rfl) (by simp) ?_
      refine (RdyHd.cons (by simp only [List.getElem?_toArray, List.getElem?_cons_succ, List.getElem?_cons_zero] <;> rfl) (by decide) (fun K hK => ?_) RdyHd.nil)
      · go_simp
        go_at_call 36
        have ca := HK1.out.keptY (i := 0) rfl HOY.out
        simp only [Ar.v] at ca
        refine ca.mono ?_
        rintro e w12 ⟨rfl, h5⟩
        have HQ2_ := h5
        try simp only [List.cons_append, List.nil_append, List.set_cons_zero, List.set_cons_succ, List.map_cons, List.map_nil, List.getD_cons_zero, List.getD_cons_succ, World.size_alloc] at HQ2_
        have HQ2 := Lib.hid HQ2_
        clear HQ2_
        clear ca h5 d4 d5
        have d4 := HQ2.out.cell (i := 2) rfl 4 _ rfl; have d5 := HQ2.out.cell (i := 2) rfl 5 _ rfl
        (try go_simp)
        refine hK.out _ _ ?_ (fun hHeld => ?_)
        · exact ⟨d4, d5⟩
        clear hK K
        try simp only [Act.put, List.setIfInBounds_toArray, List.set_cons_zero, List.set_cons_succ, Nat.zero_add]
        refine wpHd_done (by kernel_rfl) ?_
        simp only [List.drop_succ_cons, List.drop_zero]
        go_wp2_with fail
        refine NoPanic.normal ?_
        clear d4 d5 HK1
        skip
        have d4 := HQ2.out.cell (i := 2) rfl 4 _ rfl; have d5 := HQ2.out.cell (i := 2) rfl 5 _ rfl; have d9 := HQ2.out.cell (i := 2) rfl 9 _ rfl; have d11 := HQ2.out.cell (i := 2) rfl 11 _ rfl
        have cr := rempty_any (HOF.out.below HQ2.out.belowN (Nat.le_refl _)) (HOY.out.below HQ2.out.belowN (Nat.le_refl _)) tl
        try simp only [Ar.v] at cr
        rw [HvS.out, HvE.out] at cr
        have CR := Lib.hid cr
        clear cr
        go_wp2_with fail
        refine CR.out.mono ?_; rintro e w20 ⟨B2, rfl, hI6, hB2, hT2, hO6, hb6⟩
        obtain ⟨WE, HWE⟩ : ∃ z, Hid (w20.alloc (.cells #[.slice B2.sa B2.sn B2.sc, .slice B2.aa B2.an B2.ac] 45) = z) := ⟨_, rfl⟩
        have h7 := (HQ2.out.arrNew hI6 hO6 hb6).alloc 45 2 1 #[.slice B2.sa B2.sn B2.sc, .slice B2.aa B2.an B2.ac] rfl (by decide)
        obtain ⟨b2, HB2⟩ : ∃ z, Hid (w20.heap.size = z) := ⟨_, rfl⟩
        rw [HWE.out, HB2.out] at h7
        have HE_ := h7
        try simp only [List.cons_append, List.nil_append, List.set_cons_zero, List.set_cons_succ, List.map_cons, List.map_nil, List.getD_cons_zero, List.getD_cons_succ, World.size_alloc] at HE_
        have HE := Lib.hid HE_
        clear HE_
        clear h7 CR d4 d5 d9 d11
        have HF2 : Hid (B2.s = vS ∧ B2.a = []) := ⟨hB2, hT2⟩
        try simp only [Ar.v]
        go_upto_region 34 with fail
        rw [HWE.out, HB2.out]
        have p0 := HE.out.cell (i := 4) rfl 0 _ rfl
        have q0 := HE.out.cell (i := 6) rfl 0 _ rfl
        have p1 := HE.out.cell (i := 4) rfl 1 _ rfl
        have q1 := HE.out.cell (i := 6) rfl 1 _ rfl
        have ce := eq4_any (HE.out.isA (i := 3) rfl) (HE.out.isA (i := 5) rfl)
        rw [decide_eq_true (And.intro (HF1.out.1.trans HF2.out.1.symm) (HF1.out.2.trans HF2.out.2.symm))] at ce
        simp only [Ar.v] at ce
        have CE0 := Lib.hid ce
        clear ce
        go_wp2_with fail
        refine CE0.out.mono ?_; rintro e w30 ⟨rfl, hb9⟩
        have HE0_ := HE.out.via hb9
        try simp only [List.cons_append, List.nil_append, List.set_cons_zero, List.set_cons_succ, List.map_cons, List.map_nil, List.getD_cons_zero, List.getD_cons_succ, World.size_alloc] at HE0_
        have HE0 := Lib.hid HE0_
        clear HE0_
        clear hb9 p0 q0 p1 q1
        have HF : Hid (PlaysP w0 hb G (.returned (.bool true)) w30) := ⟨rfl, HE0.out.pick [0, 1] (by decide)⟩
        go_wp2
        exact bodyPost_ret (v := .bool true) (by simp [results, Try.results9, go_sem, *]) rfl HF.out
end Go.Proofs.Ythackmkdicpdeaa

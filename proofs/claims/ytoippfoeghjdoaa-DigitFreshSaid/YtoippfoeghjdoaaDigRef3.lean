/- Plain laws of binary digits. The document's functions total, digits of layer 8; Items, Item of layer 6. -/
import Derived.Test.YtoippfoeghjdoaaDigLaws
import Derived.Test.YtoippfoeghjdoaaDigRef2
namespace Go.Proofs.Ytoippfoeghjdoaa
open Go.RowKit Go.Lib
set_option linter.unusedVariables false
set_option linter.unusedSimpArgs false
/-- Binary digits: the width is the greatest length. -/
theorem biW_ub {a : List Int} : ∀ k, k ≤ a.length → (∀ i, i < k → (Lib.bitLen (a.getD i 0).natAbs : Int) ≤ biW (a.take k)) ∧ (0 < k → 1 ≤ biW (a.take k)) ∧ (0 < k → biW (a.take k) = 1 ∨ ∃ i, i < k ∧ biW (a.take k) = (Lib.bitLen (a.getD i 0).natAbs : Int))
  | 0, _ => ⟨fun i hi => absurd hi (by omega), fun h => absurd h (by omega), fun h => absurd h (by omega)⟩
  | k + 1, hk => by
    obtain ⟨h1, h2, h3⟩ := biW_ub (a := a) k (by omega)
    rw [biW_snoc (by omega)]
    refine ⟨fun i hi => ?_, fun _ => by omega, fun _ => ?_⟩
    · by_cases e : i = k
      · subst e; omega
      · have := h1 i (by omega); omega
    · rcases (show max (max (biW (a.take k)) 1) (Lib.bitLen (a.getD k 0).natAbs : Int) = (Lib.bitLen (a.getD k 0).natAbs : Int) ∨ max (max (biW (a.take k)) 1) (Lib.bitLen (a.getD k 0).natAbs : Int) = 1 ∨ (max (max (biW (a.take k)) 1) (Lib.bitLen (a.getD k 0).natAbs : Int) = biW (a.take k) ∧ 1 < biW (a.take k)) by omega) with h | h | ⟨h, h4⟩
      · exact .inr ⟨k, by omega, h⟩
      · exact .inl h
      · rw [h]
        have h0 : 0 < k := by
          rcases Nat.eq_zero_or_pos k with e | e
          · subst e; simp [biW] at h4
          · exact e
        rcases h3 h0 with e | ⟨i, hi, e⟩
        · exact .inl e
        · exact .inr ⟨i, by omega, e⟩
theorem biD_len (w : Nat) (n : Int) (k : Nat) : (biD w n k).length = k := by simp [biD]
theorem biD_at {w : Nat} {n : Int} {k j : Nat} (h : j < k) : (biD w n k).getD j 0 = n / 2 ^ (w - 1 - j) % 2 := by
  unfold biD
  simp only [List.getD_eq_getElem?_getD, List.getElem?_map, List.getElem?_range h, Option.map_some, Option.getD_some]
theorem fit_nn {m : Int} (h : 0 ≤ m ∧ m ≤ 9223372036854775807) : fit m = true := decide_eq_true ⟨by omega, h.2⟩
/-- Binary digits put together. -/
theorem bs_bits {W : Nat} {n : Int} (hn : 0 ≤ n ∧ n ≤ 9223372036854775807) (hlt : n < 2 ^ W) : ∀ j, j ≤ W → bsGo [] [2] [(W : Int)] (biD W n W) j = some (n / 2 ^ (W - j))
  | 0, _ => by
    have : n / 2 ^ (W - 0) = 0 := Int.ediv_eq_zero_of_lt hn.1 (by simpa using hlt)
    rw [this]; rfl
  | j + 1, hj => by
    have ih := bs_bits hn hlt j (by omega)
    have e1 : pkV [] [2] j = 2 := rfl
    have e2 : pkV [(W : Int)] (biD W n W) j = n / 2 ^ (W - 1 - j) % 2 := by unfold pkV; rw [if_neg (by simp), biD_at (by omega)]
    obtain ⟨m, hm⟩ : ∃ m, m = n / 2 ^ (W - 1 - j) := ⟨_, rfl⟩
    have hp : (1 : Int) ≤ 2 ^ (W - 1 - j) := by have := Int.pow_pos (n := 2) (m := W - 1 - j) (by omega); omega
    have e3 : n / 2 ^ (W - j) = m / 2 := by
      rw [show W - j = W - 1 - j + 1 by omega, Int.pow_succ, ← Int.ediv_ediv_of_nonneg (by omega), hm]
    have hm1 : 0 ≤ m ∧ m ≤ n := by
      rw [hm]
      exact ⟨Int.ediv_nonneg hn.1 (by omega), Int.ediv_le_self _ hn.1⟩
    rw [bsGo, ih, e1, e2, ← hm, e3]
    simp only
    rw [if_pos (fit_nn (by omega)), if_pos (fit_nn (by omega)), show W - (j + 1) = W - 1 - j by omega, ← hm]
    congr 1
    omega
theorem base_bits {W : Nat} {n : Int} (hW : W ≤ 4096) (hn : 0 ≤ n ∧ n ≤ 9223372036854775807) (hlt : n < 2 ^ W) : dMon 39 [(W : Int)] (biD W n W) = ([], [n], 0) := by
  have h := bs_bits hn hlt W (Nat.le_refl _)
  rw [Nat.sub_self, Int.pow_zero, Int.ediv_one] at h
  have hN : bsN [2] [(W : Int)] (biD W n W) = W := by unfold bsN; rw [if_neg (by simp), biD_len]
  unfold dMon
  rw [if_neg (by rw [amE_list (biD_len W n W).symm hW]; decide), if_neg (by decide), if_neg (by simp), if_neg (by decide), if_neg (by decide), if_pos rfl]
  unfold bsA bsE
  rw [if_neg (by simp), if_neg (by simp), hN, h]
theorem flat_cut {W : Nat} {f : Int → List Int} (hf : ∀ x, (f x).length = W) : ∀ (b : List Int) (i : Nat), i < b.length → (((b.map f).flatten).drop (i * W)).take W = f (b.getD i 0)
  | [], i, h => absurd h (by simp)
  | x :: b, 0, _ => by simp [List.take_append_of_le_length, hf, List.take_of_length_le]
  | x :: b, i + 1, h => by
    have ih := flat_cut hf b i (by simpa using h)
    rw [List.map_cons, List.flatten_cons, show (i + 1) * W = (f x).length + i * W by rw [hf, Nat.succ_mul]; omega, List.drop_append]
    rw [List.drop_of_length_le (by omega), List.nil_append, show (f x).length + i * W - (f x).length = i * W by omega, ih]
    rfl
theorem flat_len {W : Nat} {f : Int → List Int} (hf : ∀ x, (f x).length = W) (b : List Int) : ((b.map f).flatten).length = W * b.length := by
  induction b with
  | nil => simp
  | cons x b ih => rw [List.map_cons, List.flatten_cons, List.length_append, ih, hf, List.length_cons, Nat.mul_succ]; omega
/-- The first binary digit of a number that fills the width. -/
theorem top_bit {W : Nat} {n : Int} (hW : 1 ≤ W) (hlt : n < 2 ^ W) (h : 2 ^ (W - 1) ≤ n) : n / 2 ^ (W - 1 - 0) % 2 = 1 := by
  have hp : (1 : Int) ≤ 2 ^ (W - 1) := by have := Int.pow_pos (n := 2) (m := W - 1) (by omega); omega
  have h1 : n / 2 ^ (W - 1) = 1 := by
    rw [show W = W - 1 + 1 by omega, Int.pow_succ] at hlt
    exact Int.le_antisymm (by
      have : n / 2 ^ (W - 1) < 2 := Int.ediv_lt_of_lt_mul (by omega) (by omega)
      omega) (Int.le_ediv_of_mul_le (by omega) (by omega))
  rw [Nat.sub_zero, h1]
  rfl
theorem lbit_spec : ∀ (f x : Nat), x ≤ f → x < 2 ^ 64 → x < 2 ^ Lib.bitLen x ∧ (x ≠ 0 → 1 ≤ Lib.bitLen x ∧ 2 ^ (Lib.bitLen x - 1) ≤ x)
  | 0, x, h, _ => by
    obtain rfl : x = 0 := by omega
    exact ⟨by decide, fun h => absurd rfl h⟩
  | f + 1, x, h, h64 => by
    by_cases h0 : x = 0
    · subst h0; exact ⟨by decide, fun h => absurd rfl h⟩
    · have e := Lib.bitLen_half x h0 h64
      obtain ⟨h1, h2⟩ := lbit_spec f (x / 2) (by omega) (by omega)
      obtain ⟨L, hL⟩ : ∃ L, L = Lib.bitLen (x / 2) := ⟨_, rfl⟩
      rw [← hL] at h1 h2 e
      rw [e, Nat.add_comm 1 L]
      refine ⟨by rw [Nat.pow_succ]; omega, fun _ => ⟨by omega, ?_⟩⟩
      rw [Nat.add_sub_cancel]
      by_cases hx : x / 2 = 0
      · rw [hx] at hL
        have hz : Lib.bitLen 0 = 0 := by decide
        rw [hL, hz]; simp; omega
      · obtain ⟨h3, h4⟩ := h2 hx
        rw [show L = L - 1 + 1 by omega, Nat.pow_succ]
        omega
theorem bitLen_int {n : Int} {W : Nat} (hr : n ≤ 9223372036854775807) (h : (Lib.bitLen n.natAbs : Int) ≤ W) (hn : 0 ≤ n) : n < 2 ^ W := by
  have h1 := (lbit_spec n.natAbs n.natAbs (Nat.le_refl _) (by omega)).1
  have h2 : 2 ^ Lib.bitLen n.natAbs ≤ 2 ^ W := Nat.pow_le_pow_right (by omega) (by omega)
  have h3 : ((n.natAbs : Nat) : Int) < ((2 ^ W : Nat) : Int) := by exact_mod_cast Nat.lt_of_lt_of_le h1 h2
  have h4 : ((2 ^ W : Nat) : Int) = (2 : Int) ^ W := by push_cast; rfl
  omega
theorem bitLen_top {n : Int} {W : Nat} (hr : n ≤ 9223372036854775807) (h : (W : Int) = (Lib.bitLen n.natAbs : Int)) (hW : 1 < W) (hn : 0 ≤ n) : 2 ^ (W - 1) ≤ n := by
  have h0 : n.natAbs ≠ 0 := fun e => by
    rw [e] at h
    have hz : Lib.bitLen 0 = 0 := by decide
    have : (Lib.bitLen (0 : Int).natAbs : Int) = 0 := by rw [show (0 : Int).natAbs = 0 from rfl, hz]; rfl
    have h5 : n = 0 := by omega
    rw [hz] at h
    omega
  have h1 := ((lbit_spec n.natAbs n.natAbs (Nat.le_refl _) (by omega)).2 h0).2
  rw [show Lib.bitLen n.natAbs = W by omega] at h1
  have h3 : ((2 ^ (W - 1) : Nat) : Int) ≤ ((n.natAbs : Nat) : Int) := by exact_mod_cast h1
  have h4 : ((2 ^ (W - 1) : Nat) : Int) = (2 : Int) ^ (W - 1) := by push_cast; rfl
  omega
end Go.Proofs.Ytoippfoeghjdoaa
namespace Go.Proofs.Ytoippfoeghjdoaa
open Go.RowKit Go.Lib
set_option linter.unusedVariables false
set_option linter.unusedSimpArgs false
attribute [local go_sem] alloc_drewN setCell_drewN
/-- All numbers together; 5000, if they are more than 4096. -/
def ttN (l : List Int) : Int := if cpU [0] l l.length ≤ 4096 then cpU [0] l l.length else 5000
def ttV (l : List Int) : Int := if l.any (fun k => decide (k < 0)) then 0 else ttN l
theorem cpU0_step (x : List Int) (i : Nat) : cpU [0] x (i + 1) = cpU [0] x i + x.getD i 0 := by
  rw [cpU]; congr 1
set_option maxHeartbeats 1600000 in
theorem rtotal_any {w : World} {ao : Option Addr} {n c : Nat} {l : List Int} (h : Ls w ao n c l) :
    Calls Try.prog 86 #[.slice ao n c] w (RetS w (.tuple #[.int .i64 (ttV l), .bool (!(l.any (fun k => decide (k < 0))))])) := by
  have hl := h.len
  have hb := h.big
  have HL := Lib.hid hl
  have H := Lib.hid h
  clear h hl
  obtain ⟨V, HV⟩ : ∃ z, Hid (ttV l = z) := ⟨_, rfl⟩
  obtain ⟨B, HB⟩ : ∃ z, Hid (l.any (fun k => decide (k < 0)) = z) := ⟨_, rfl⟩
  rw [HV.out, HB.out]
  go_enter Try.func86, Try.ntmps86
  go_wp2_with fail
  go_loop [4, 5] (fun v4 v5 => ∃ (k : Nat) (u : Int), k ≤ n ∧ v5 = .int .i64 k ∧ v4 = .int .i64 u ∧ Hid (∀ j, j < k → 0 ≤ l.getD j 0) ∧ Hid (0 ≤ u ∧ ((cpU [0] l k ≤ 4096 ∧ u = cpU [0] l k) ∨ (4096 < cpU [0] l k ∧ 4096 < u ∧ u ≤ 8192)))) (fun _ v5 => n - (RowKit.intOf v5).toNat)
  case atStart => exact ⟨0, 0, by omega, rfl, rfl, fun j hj => absurd hj (by omega), ⟨by omega, .inl ⟨by simp [cpU], rfl⟩⟩⟩
  case round =>
    obtain ⟨k, u, hk, rfl, rfl, HP, HU⟩ := hrel
    by_cases hlt : k < n
    · have hlt' : (k : Int) < n := by omega
      obtain ⟨b1, o1, e1, hc1⟩ := H.out.at (by omega)
      have d1 := hc1 k hlt
      obtain ⟨x, HX⟩ : ∃ z, Hid (l.getD k 0 = z) := ⟨_, rfl⟩
      rw [HX.out] at d1
      subst e1
      clear hc1
      by_cases hx : x < 0
      · have hany : l.any (fun k => decide (k < 0)) = true := any_neg_iff.2 ⟨k, by rw [HL.out]; exact hlt, by rw [HX.out]; exact hx⟩
        have r1 : B = true := by rw [← HB.out, hany]
        have r2 : V = 0 := by rw [← HV.out, ttV, hany]; rfl
        subst r1 r2
        clear hany
        go_wp2
        go_ret2
        exact RetS.mk rfl
      · have hs := cpU0_step l k
        rw [HX.out] at hs
        have hu := HU.out
        have HP' : Hid (∀ j, j < k + 1 → 0 ≤ l.getD j 0) := fun j hj => by
          by_cases e : j = k
          · subst e; rw [HX.out]; omega
          · exact HP.out j (by omega)
        by_cases h1 : 4096 < x
        · have HU' : Hid (0 ≤ (5000 : Int) ∧ ((cpU [0] l (k + 1) ≤ 4096 ∧ (5000 : Int) = cpU [0] l (k + 1)) ∨ (4096 < cpU [0] l (k + 1) ∧ 4096 < (5000 : Int) ∧ (5000 : Int) ≤ 8192))) := ⟨by omega, .inr ⟨by omega, by omega, by omega⟩⟩
          clear hs hu
          go_wp2
          go_round
          case rel => exact ⟨k + 1, 5000, by omega, by go_num, rfl, HP', HU'⟩
          case measure => simp [RowKit.intOf]; omega
        · by_cases h2 : 4096 < u
          · have HU' : Hid (0 ≤ (5000 : Int) ∧ ((cpU [0] l (k + 1) ≤ 4096 ∧ (5000 : Int) = cpU [0] l (k + 1)) ∨ (4096 < cpU [0] l (k + 1) ∧ 4096 < (5000 : Int) ∧ (5000 : Int) ≤ 8192))) := ⟨by omega, .inr ⟨by omega, by omega, by omega⟩⟩
            clear hs hu
            go_wp2
            go_round
            case rel => exact ⟨k + 1, 5000, by omega, by go_num, rfl, HP', HU'⟩
            case measure => simp [RowKit.intOf]; omega
          · have HU' : Hid (0 ≤ u + x ∧ ((cpU [0] l (k + 1) ≤ 4096 ∧ u + x = cpU [0] l (k + 1)) ∨ (4096 < cpU [0] l (k + 1) ∧ 4096 < u + x ∧ u + x ≤ 8192))) := ⟨by omega, by omega⟩
            have hu0 : 0 ≤ u := hu.1
            clear hs hu
            go_wp2
            go_round
            case rel => exact ⟨k + 1, u + x, by omega, by go_num, by go_num, HP', HU'⟩
            case measure => simp [RowKit.intOf]; omega
    · have hge : ¬ ((k : Int) < n) := by omega
      obtain rfl : k = n := by omega
      have hany : l.any (fun k => decide (k < 0)) = false := by
        cases hq : l.any (fun k => decide (k < 0))
        · rfl
        · obtain ⟨i, hi, h2⟩ := any_neg_iff.1 hq
          have := HP.out i (by rw [HL.out] at hi; exact hi)
          omega
      have r1 : B = false := by rw [← HB.out, hany]
      have r2 : V = if cpU [0] l k ≤ 4096 then cpU [0] l k else 5000 := by rw [← HV.out, ttV, hany, ttN, HL.out]; rfl
      have hu := HU.out
      subst r1
      by_cases h2 : 4096 < u
      · rw [if_neg (by omega)] at r2
        subst r2
        clear hany hu
        go_wp2
        go_ret2
        exact RetS.mk rfl
      · rw [if_pos (by omega)] at r2
        obtain rfl : V = u := by omega
        clear hany hu r2
        go_wp2
        go_ret2
        exact RetS.mk rfl
set_option maxHeartbeats 1600000 in
theorem rdigits_any (x : Int) (w : World) (hx : -9223372036854775808 ≤ x ∧ x ≤ 9223372036854775807) :
    Calls Try.prog 87 #[.int .i64 x] w (RetS w (.int .i64 (max 1 (Lib.bitLen x.natAbs : Int)))) := by
  obtain ⟨U, HU⟩ : ∃ U : Nat, Hid (x.natAbs = U) := ⟨_, rfl⟩
  obtain ⟨V, HV⟩ : ∃ z, Hid (max 1 (Lib.bitLen x.natAbs : Int) = z) := ⟨_, rfl⟩
  have hU64 : U ≤ 9223372036854775808 := by rw [← HU.out]; omega
  have HU6 := Lib.hid hU64
  rw [HV.out]
  rw [HU.out] at HV
  have hbl : Lib.bitLen U ≤ 64 := Lib.bitLen_le U 64 (by omega) (by omega)
  have HBL := Lib.hid hbl
  have LOOP : Hid (∀ u : Nat, u ≤ 9223372036854775808 → u ≠ 0 → u ≠ 1 → Lib.bitLen u = 1 + Lib.bitLen (u / 2)) := fun u h1 h2 h3 => Lib.bitLen_half u h2 (by omega)
  have h1b : Lib.bitLen 1 = 1 := by decide
  have h0b : Lib.bitLen 0 = 0 := by decide
  have HBB := Lib.hid (And.intro h1b h0b)
  clear hbl h1b h0b
  have hstart : ∃ z : Int, z = U := ⟨_, rfl⟩
  by_cases h : x < 0
  · have hw := whole_neg hx h
    rw [HU.out] at hw
    have HW := Lib.hid hw
    obtain ⟨q, HQ⟩ : ∃ q, Hid (IntKind.u64.wrap x = q) := ⟨_, rfl⟩
    have hq1 : IntKind.u64.wrap x = q := HQ.out
    have hq2 : IntKind.u64.wrap (-q) = U := by rw [← HQ.out]; exact hw
    have hq3 : IntKind.u64.wrap (0 - q) = U := by rw [Int.zero_sub]; exact hq2
    clear hx hU64
    go_enter Try.func87, Try.ntmps87
    go_wp2_with fail
    go_loop [3, 4] (fun v3 v4 => ∃ (u v : Nat), u ≤ 9223372036854775808 ∧ v ≤ 64 ∧ v3 = .int .u64 u ∧ v4 = .int .i64 v ∧ Hid (1 ≤ v ∧ ((1 ≤ u ∧ v + Lib.bitLen u = Lib.bitLen U + 1) ∨ (u = 0 ∧ U = 0 ∧ v = 1)))) (fun v3 _ => (RowKit.intOf v3).toNat)
    case atStart =>
      refine ⟨U, 1, HU6.out, by omega, by first | rfl | (congr 1; assumption) | (rw [hw]), rfl, ⟨by omega, ?_⟩⟩
      by_cases e : U = 0
      · exact .inr ⟨e, e, rfl⟩
      · exact .inl ⟨by omega, by omega⟩
    case round =>
      obtain ⟨u, v, hu, hv, rfl, rfl, HI⟩ := hrel
      by_cases h2 : 1 < u
      · have h2' : (1 : Int) < u := by omega
        have hi := HI.out
        have hb := LOOP.out u hu (by omega) (by omega)
        have ht : (u : Int).tdiv 2 = ((u / 2 : Nat) : Int) := by rw [Int.tdiv_eq_ediv_of_nonneg (by omega)]; rfl
        obtain ⟨z, HZ⟩ : ∃ z, Hid (u / 2 = z) := ⟨_, rfl⟩
        rw [HZ.out] at ht hb
        have hz : z ≤ 9223372036854775808 ∧ 1 ≤ z ∧ z < u := by rw [← HZ.out]; omega
        have ht2 : (u : Int) / 2 = z := by rw [← HZ.out]; rfl
        have hwz : IntKind.u64.wrap (z : Int) = z := IntWalk.u64_in _ (by omega)
        have HI' : Hid (1 ≤ v + 1 ∧ ((1 ≤ z ∧ v + 1 + Lib.bitLen z = Lib.bitLen U + 1) ∨ (z = 0 ∧ U = 0 ∧ v + 1 = 1))) := ⟨by omega, .inl ⟨by omega, by omega⟩⟩
        have hbz : 1 ≤ Lib.bitLen z := by
          have := (lbit_spec z z (Nat.le_refl _) (by omega)).2 (by omega)
          exact this.1
        have hv2 : v + 1 ≤ 64 := by have := HBL.out; omega
        clear hi hb
        go_wp2
        go_round
        case rel => exact ⟨z, v + 1, hz.1, hv2, by go_num, by go_num, HI'⟩
        case measure => simp [RowKit.intOf]; omega
      · have h2' : ¬ (1 : Int) < u := by omega
        have hi := HI.out
        have r : V = v := by
          rw [← HV.out]
          rcases hi.2 with ⟨g1, g2⟩ | ⟨g1, g2, g3⟩
          · obtain rfl : u = 1 := by omega
            rw [HBB.out.1] at g2
            have := hi.1
            omega
          · rw [g2, HBB.out.2, g3]; rfl
        subst r
        clear hi
        go_wp2
        go_ret
        exact RetS.mk rfl
  by_cases h : ¬ x < 0
  · have hw := whole_pos hx (by omega)
    rw [HU.out] at hw
    have HW := Lib.hid hw
    clear hx hU64
    go_enter Try.func87, Try.ntmps87
    go_wp2_with fail
    go_loop [3, 4] (fun v3 v4 => ∃ (u v : Nat), u ≤ 9223372036854775808 ∧ v ≤ 64 ∧ v3 = .int .u64 u ∧ v4 = .int .i64 v ∧ Hid (1 ≤ v ∧ ((1 ≤ u ∧ v + Lib.bitLen u = Lib.bitLen U + 1) ∨ (u = 0 ∧ U = 0 ∧ v = 1)))) (fun v3 _ => (RowKit.intOf v3).toNat)
    case atStart =>
      refine ⟨U, 1, HU6.out, by omega, by first | rfl | (congr 1; assumption) | (rw [hw]), rfl, ⟨by omega, ?_⟩⟩
      by_cases e : U = 0
      · exact .inr ⟨e, e, rfl⟩
      · exact .inl ⟨by omega, by omega⟩
    case round =>
      obtain ⟨u, v, hu, hv, rfl, rfl, HI⟩ := hrel
      by_cases h2 : 1 < u
      · have h2' : (1 : Int) < u := by omega
        have hi := HI.out
        have hb := LOOP.out u hu (by omega) (by omega)
        have ht : (u : Int).tdiv 2 = ((u / 2 : Nat) : Int) := by rw [Int.tdiv_eq_ediv_of_nonneg (by omega)]; rfl
        obtain ⟨z, HZ⟩ : ∃ z, Hid (u / 2 = z) := ⟨_, rfl⟩
        rw [HZ.out] at ht hb
        have hz : z ≤ 9223372036854775808 ∧ 1 ≤ z ∧ z < u := by rw [← HZ.out]; omega
        have ht2 : (u : Int) / 2 = z := by rw [← HZ.out]; rfl
        have hwz : IntKind.u64.wrap (z : Int) = z := IntWalk.u64_in _ (by omega)
        have HI' : Hid (1 ≤ v + 1 ∧ ((1 ≤ z ∧ v + 1 + Lib.bitLen z = Lib.bitLen U + 1) ∨ (z = 0 ∧ U = 0 ∧ v + 1 = 1))) := ⟨by omega, .inl ⟨by omega, by omega⟩⟩
        have hbz : 1 ≤ Lib.bitLen z := by
          have := (lbit_spec z z (Nat.le_refl _) (by omega)).2 (by omega)
          exact this.1
        have hv2 : v + 1 ≤ 64 := by have := HBL.out; omega
        clear hi hb
        go_wp2
        go_round
        case rel => exact ⟨z, v + 1, hz.1, hv2, by go_num, by go_num, HI'⟩
        case measure => simp [RowKit.intOf]; omega
      · have h2' : ¬ (1 : Int) < u := by omega
        have hi := HI.out
        have r : V = v := by
          rw [← HV.out]
          rcases hi.2 with ⟨g1, g2⟩ | ⟨g1, g2, g3⟩
          · obtain rfl : u = 1 := by omega
            rw [HBB.out.1] at g2
            have := hi.1
            omega
          · rw [g2, HBB.out.2, g3]; rfl
        subst r
        clear hi
        go_wp2
        go_ret
        exact RetS.mk rfl
  · omega
end Go.Proofs.Ytoippfoeghjdoaa

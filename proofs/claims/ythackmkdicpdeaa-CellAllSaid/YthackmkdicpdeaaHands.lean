/- The hands of layer 2 (abacuslaw2): many lists laid in memory that is used anew. -/
import Derived.Test.YthackmkdicpdeaaHandsXY
import Derived.Test.YthackmkdicpdeaaShapeCover
import Derived.Deep.RegionLaw
namespace Go.Proofs.Ythackmkdicpdeaa
open Go.RowKit Go.Lib
set_option linter.unusedVariables false
set_option linter.unusedSimpArgs false
attribute [local go_sem] alloc_drewN setCell_drewN
def lenW : Value → Nat
  | .slice _ n _ => n
  | _ => 0
section
variable {base : Nat} {w : World} {R : Nat × Nat × Nat → Rw} {o hb : Nat}
theorem Hold.wpList_app {P : Program} (h : Hold base w R) {ops : Array Oper} {rest : List Oper} {o : Oper} {a : Act} {Q : Exit → Act → World → Prop} (hgd : o.guard = none) (s x : Operand) (t : TypeId)
    (ho : o.op = .call { callee := .builtin .append, args := #[s, x], argTypes := #[t, t] })
    (tg : Nat × Nat × Nat) (e : TypeId) (i : TypeInfo) (z : Value) (size bytes : Nat) (ht : P.underlying t = some (.slice e)) (hi : P.info? e = some i) (hz : i.zero = some z)
    (hsize : i.size = size) (hby : i.bytes = bytes) (hzs : z.cells.size = size) (hsz : 0 < size)
    {ao : Option Addr} {n c : Nat} {xs : List Value} (hr : R tg = ⟨e, size, ao, n, c, xs⟩) (hs : a.eval s = .slice ao n c)
    (ad : Addr) (m c' : Nat) (hx : a.eval x = .slice (some ad) m c') (news : List Value) (hl : news.length = m * size) (hnews : ∀ j u, news[j]? = some u → w.cell? (ad.add j) = some u) (h1 : ∀ u ∈ news, u.oneCell' = true)
    (h63 : n + m ≤ maxLen) (hbytes : (n + m) * bytes ≤ 140737488355328)
    (hk : ∀ bo d w', Hold base w' (updR R tg ⟨e, size, bo, n + m, d, xs ++ news⟩) → Below base w w' → wpList P ops Q rest (a.put o.dst (.slice bo (n + m) d)) w') : wpList P ops Q (o :: rest) a w :=
  wpList_plain hgd fun _ hK => h.wp_append s x t ho tg e i z size bytes ht hi hz hsize hby hzs hsz hr hs ad m c' hx news hl hnews h1 h63 hbytes fun bo d w' h1 h2 => hK _ _ (hk bo d w' h1 h2)
/-- append of no slice at all. -/
theorem wpList_app0 {P : Program} {ops : Array Oper} {rest : List Oper} {o : Oper} {a : Act} {Q : Exit → Act → World → Prop} (hgd : o.guard = none) (s x : Operand) (t : TypeId)
    (ho : o.op = .call { callee := .builtin .append, args := #[s, x], argTypes := #[t, t] })
    (e : TypeId) (i : TypeInfo) (ht : P.underlying t = some (.slice e)) (hi : P.info? e = some i) {sz : Nat} {ao : Option Addr} {n c c' : Nat} {xs : List Value} (hown : w.ownsRow base e sz (.slice ao n c) n xs) (hs : a.eval s = .slice ao n c)
    (hx : a.eval x = .slice none 0 c') (hk : wpList P ops Q rest (a.put o.dst (.slice ao n c)) w) : wpList P ops Q (o :: rest) a w :=
  wpList_plain hgd fun _ hK => by
    have hrun : (Builtin.append_ #[t, t] o.type #[.slice ao n c, .slice none 0 c']).run P w = .ok (.slice ao n c) w := by
      rcases hown.2 with ⟨hv, h0⟩ | ⟨g, cap, cur, hv, hbg, hg, hnc, hcm, hcs, htake⟩
      · cases hv
        simp [Builtin.append_, run_underlying ht, sizeOf, typeInfo, hi, Builtin.lenOf, Builtin.firstCells, loadCells, loadCellsFrom]
      · cases hv
        simp [Builtin.append_, run_underlying ht, sizeOf, typeInfo, hi, Builtin.lenOf, Builtin.firstCells, storeCells, hnc]
    unfold Oper.wp execOp
    simp only [ho, resolve, invoke, builtin, Sem.run_bind, Sem.run_pure, Result.andThen_ok, List.map_toArray, List.map_cons, List.map_nil, hs, hx, hrun]
    exact hK _ _ hk
/-- A row of numbers at its whole length. -/
def Full (r : Rw) : Prop := ∃ (ao : Option Addr) (d : Nat) (S : List Int), r = ⟨3, 1, ao, d, d, S.map (Value.int .i64)⟩
end
end Go.Proofs.Ythackmkdicpdeaa

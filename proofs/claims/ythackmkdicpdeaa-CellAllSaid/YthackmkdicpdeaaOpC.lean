/- A call of layer 4 as it is handed in. -/
import Derived.Test.YthackmkdicpdeaaSep3
namespace Go.Proofs.Ythackmkdicpdeaa
open Go.RowKit Go.Lib
/-- A call of layer 4. -/
structure OpC where
  k : Int
  on : Int
  x : Ar
  y : Ar
  m : Int
  n : Int
  l : Int
  fo : Option Addr
  fn : Nat
  fc : Nat
  fr : List Int
  ao : Option Addr
  an : Nat
  ac : Nat
  As : List Ar
  told : Bool
def OpC.nil : OpC := ⟨0, 0, ⟨none, 0, 0, none, 0, 0, [], []⟩, ⟨none, 0, 0, none, 0, 0, [], []⟩, 0, 0, 0, none, 0, 0, [], none, 0, 0, [], false⟩
def OpC.cells (o : OpC) : Array Value := #[.int .i64 o.k, .int .i64 o.on, .slice o.x.sa o.x.sn o.x.sc, .slice o.x.aa o.x.an o.x.ac, .slice o.y.sa o.y.sn o.y.sc, .slice o.y.aa o.y.an o.y.ac, .int .i64 o.m, .int .i64 o.n, .int .i64 o.l, .slice o.fo o.fn o.fc, .slice o.ao o.an o.ac, .bool o.told]
def OpC.v (o : OpC) : Value := .agg #[.int .i64 o.k, .int .i64 o.on, .slice o.x.sa o.x.sn o.x.sc, .slice o.x.aa o.x.an o.x.ac, .slice o.y.sa o.y.sn o.y.sc, .slice o.y.aa o.y.an o.y.ac, .int .i64 o.m, .int .i64 o.n, .int .i64 o.l, .slice o.fo o.fn o.fc, .slice o.ao o.an o.ac, .bool o.told]
structure OpC.Is (o : OpC) (w : World) : Prop where
  x : o.x.Is w
  y : o.y.Is w
  f : Ls w o.fo o.fn o.fc o.fr
  a : Ars w o.ao o.an o.ac o.As
  m : -9223372036854775808 ≤ o.m ∧ o.m ≤ 9223372036854775807
  n : -9223372036854775808 ≤ o.n ∧ o.n ≤ 9223372036854775807
  l : -9223372036854775808 ≤ o.l ∧ o.l ≤ 9223372036854775807
  big : o.an * 48 ≤ 140737488351232
/-- A slice value reads as a list of calls. -/
structure OpsC (w : World) (ao : Option Addr) (n c : Nat) (os : Nat → OpC) : Prop where
  big : n * 8 ≤ 140737488351232
  cap : n ≤ c
  mem : 0 < n → ∃ b off, ao = some ⟨b, off, none⟩ ∧ b < w.heap.size ∧ ∀ i, i < n → ∀ j v, (os i).cells[j]? = some v → w.cell? ⟨b, off + (i * 12 + j), none⟩ = some v
  ops : ∀ i, i < n → (os i).Is w
end Go.Proofs.Ythackmkdicpdeaa

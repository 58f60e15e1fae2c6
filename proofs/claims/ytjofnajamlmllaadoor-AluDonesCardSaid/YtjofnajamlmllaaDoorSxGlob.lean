import Derived.WalkKit
import Derived.Lib.ItoaNum
namespace Go.Sx
/-- It holds some number. -/
def isInt (o : Obj) : Prop := ∃ (m : Int) (cs : Array Value) (ty : TypeId) (fz : Nat × Nat), o = .cells cs ty fz ∧ cs[0]? = some (.int .i64 m)
/-- It holds these cells. -/
def isRow (cs : Array Value) (o : Obj) : Prop := ∃ (ty : TypeId) (fz : Nat × Nat), o = .cells cs ty fz
/-- It holds some error. -/
def isErr (o : Obj) : Prop := ∃ (te : TypeId) (pe : Value) (ty : TypeId) (fz : Nat × Nat), o = .cells #[.iface te pe] ty fz
def pow10V : Array Value := (Lib.pow10Tab.map fun z => Value.int .u64 z).toArray
/-- The package variables whose contents a seat's rows tell: block, and what is known of it. -/
def globs : List (Nat × (Obj → Prop)) := [(2, isInt), (5, isRow pow10V)]
end Go.Sx

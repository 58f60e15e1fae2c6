/-
  No cell of these rows narrows 'for every input' (looked for: loops, veiled, ifaces, maps, wideKeys, modest, calm, conditions, laid).
  DERIVED. THE GIVEN ROWS OF THIS SEAT. 5 by the template 'for every input the law returns true; each argument reads behind the call as it read before'; 0 by the template 'total and deterministic' (their statements: YtokiakcmdbihhaaTotals.lean).
  GIVEN WITH THE SEED: the statements are not yours to turn. If you find one false, say at which input.
  Laid BY PROGRAM, IN A SANDBOX (cutbox-rows.mjs): the forced cells as the released guide's own fill.sh prints them over the translation 69820ba90136b3a7… (all of the seat's roots in one cut). By AI agents, Wed Nov 11 2026. No macro, syntax, notation, axiom, sorry.
-/
import Derived.Test.YtokiakcmdbihhaaChecked
import GoSem.Claim
import GoSem.ClaimJoined
import GoSem.ClaimMapViews
import Derived.JoinedTies
import Derived.KernelRfl
namespace Go.Proofs.Ytokiakcmdbihhaa
/- THE CELL 'sum', in the pinned program and in every row, IS THE sha256 OF THE DUMP (.gsa) THAT YtokiakcmdbihhaaProg.lean LOADS. Nothing in Lean hashes anything: it is a label: what it is worth is what the hold of that sum in a sandbox is worth. -/
noncomputable def Try.pinned : Pinned := { name := "ytokiakcmdbihhaa", sum := "69820ba90136b3a791d09cf9c4a40b1fd1949151b30297c967a921d281fea566", checked := Try.checked }
namespace Rows
def none {H : Type} : Left H := { results := [], args := [] }

/-- 'warderlaw17.ServerBound': WHATEVER THE INPUT: true; the input reads as it did. -/
def serverBoundSpec : ChangeSpec := { name := "serverBound", fn := fun _ => fun
  | [d1, d2, d3, d4, d5] => { results := [.lit (.bool true)], args := [d1, d2, d3, d4, d5] }
  | _ => none }
def serverBoundRow : OpenClaim := { program := "ytokiakcmdbihhaa", sum := "69820ba90136b3a791d09cf9c4a40b1fd1949151b30297c967a921d281fea566", func := "warder/warderlaw17.ServerBound", spec := "serverBound", unfollowed := true, recurses := true, apart := false }
def ServerBoundSaid : Prop := serverBoundRow.holds Try.pinned (OpenSpec.ofChange serverBoundSpec)

/-- ITS FALSE NEIGHBOUR: 'it returns false'. Refute it at one input. -/
def serverBoundWrong : ChangeSpec := { name := "serverBound", fn := fun _ => fun
  | [d1, d2, d3, d4, d5] => { results := [.lit (.bool false)], args := [d1, d2, d3, d4, d5] }
  | _ => none }
def ServerBoundWrongFalsely : Prop := serverBoundRow.holds Try.pinned (OpenSpec.ofChange serverBoundWrong)

/-- 'warderlaw17.ServerWhole': WHATEVER THE INPUT: true; the input reads as it did. -/
def serverWholeSpec : ChangeSpec := { name := "serverWhole", fn := fun _ => fun
  | [d1, d2, d3, d4, d5] => { results := [.lit (.bool true)], args := [d1, d2, d3, d4, d5] }
  | _ => none }
def serverWholeRow : OpenClaim := { program := "ytokiakcmdbihhaa", sum := "69820ba90136b3a791d09cf9c4a40b1fd1949151b30297c967a921d281fea566", func := "warder/warderlaw17.ServerWhole", spec := "serverWhole", unfollowed := true, recurses := true, apart := false }
def ServerWholeSaid : Prop := serverWholeRow.holds Try.pinned (OpenSpec.ofChange serverWholeSpec)

/-- ITS FALSE NEIGHBOUR: 'it returns false'. Refute it at one input. -/
def serverWholeWrong : ChangeSpec := { name := "serverWhole", fn := fun _ => fun
  | [d1, d2, d3, d4, d5] => { results := [.lit (.bool false)], args := [d1, d2, d3, d4, d5] }
  | _ => none }
def ServerWholeWrongFalsely : Prop := serverWholeRow.holds Try.pinned (OpenSpec.ofChange serverWholeWrong)

/-- 'warderlaw17.ServerBack': WHATEVER THE INPUT: true; the input reads as it did. -/
def serverBackSpec : ChangeSpec := { name := "serverBack", fn := fun _ => fun
  | [d1, d2, d3, d4] => { results := [.lit (.bool true)], args := [d1, d2, d3, d4] }
  | _ => none }
def serverBackRow : OpenClaim := { program := "ytokiakcmdbihhaa", sum := "69820ba90136b3a791d09cf9c4a40b1fd1949151b30297c967a921d281fea566", func := "warder/warderlaw17.ServerBack", spec := "serverBack", unfollowed := true, recurses := true, apart := false }
def ServerBackSaid : Prop := serverBackRow.holds Try.pinned (OpenSpec.ofChange serverBackSpec)

/-- ITS FALSE NEIGHBOUR: 'it returns false'. Refute it at one input. -/
def serverBackWrong : ChangeSpec := { name := "serverBack", fn := fun _ => fun
  | [d1, d2, d3, d4] => { results := [.lit (.bool false)], args := [d1, d2, d3, d4] }
  | _ => none }
def ServerBackWrongFalsely : Prop := serverBackRow.holds Try.pinned (OpenSpec.ofChange serverBackWrong)

/-- 'warderlaw17.ServerWakes': WHATEVER THE INPUT: true; the input reads as it did. -/
def serverWakesSpec : ChangeSpec := { name := "serverWakes", fn := fun _ => fun
  | [d1, d2, d3, d4, d5] => { results := [.lit (.bool true)], args := [d1, d2, d3, d4, d5] }
  | _ => none }
def serverWakesRow : OpenClaim := { program := "ytokiakcmdbihhaa", sum := "69820ba90136b3a791d09cf9c4a40b1fd1949151b30297c967a921d281fea566", func := "warder/warderlaw17.ServerWakes", spec := "serverWakes", unfollowed := true, recurses := true, apart := false }
def ServerWakesSaid : Prop := serverWakesRow.holds Try.pinned (OpenSpec.ofChange serverWakesSpec)

/-- ITS FALSE NEIGHBOUR: 'it returns false'. Refute it at one input. -/
def serverWakesWrong : ChangeSpec := { name := "serverWakes", fn := fun _ => fun
  | [d1, d2, d3, d4, d5] => { results := [.lit (.bool false)], args := [d1, d2, d3, d4, d5] }
  | _ => none }
def ServerWakesWrongFalsely : Prop := serverWakesRow.holds Try.pinned (OpenSpec.ofChange serverWakesWrong)

/-- 'warderlaw17.ServerRests': WHATEVER THE INPUT: true; the input reads as it did. -/
def serverRestsSpec : ChangeSpec := { name := "serverRests", fn := fun _ => fun
  | [d1, d2, d3, d4, d5] => { results := [.lit (.bool true)], args := [d1, d2, d3, d4, d5] }
  | _ => none }
def serverRestsRow : OpenClaim := { program := "ytokiakcmdbihhaa", sum := "69820ba90136b3a791d09cf9c4a40b1fd1949151b30297c967a921d281fea566", func := "warder/warderlaw17.ServerRests", spec := "serverRests", unfollowed := true, recurses := true, apart := false }
def ServerRestsSaid : Prop := serverRestsRow.holds Try.pinned (OpenSpec.ofChange serverRestsSpec)

/-- ITS FALSE NEIGHBOUR: 'it returns false'. Refute it at one input. -/
def serverRestsWrong : ChangeSpec := { name := "serverRests", fn := fun _ => fun
  | [d1, d2, d3, d4, d5] => { results := [.lit (.bool false)], args := [d1, d2, d3, d4, d5] }
  | _ => none }
def ServerRestsWrongFalsely : Prop := serverRestsRow.holds Try.pinned (OpenSpec.ofChange serverRestsWrong)

/- THE SECOND FORM. 'bulk': how many values and letters a reading holds, each counted each time it is reached (what is shared counts as often as it is met; a slice's spare places count too). A statement '..UptoSaid' is the law's where the arguments, and the package variables that the reading takes, are together of bulk at most 1048576: NARROWER than '..Said'. Prove '..Said' where nothing that the law and all that it calls make is longer than what came in: it says more and counts as full. Else prove '..UptoSaid'. A law counts once. -/
mutual
def uptoBulk {H : Type} : DataW H → Nat
  | .lit (.string bytes) => bytes.length + 1
  | .lit _ => 1
  | .nil => 1
  | .ptr d => uptoBulk d + 1
  | .slice elems spare => uptoBulkAll elems + uptoBulkAll spare + 1
  | .agg parts => uptoBulkAll parts + 1
  | .iface _ d => uptoBulk d + 1
  | .map entries => uptoBulkEntries entries + 1
  | .held _ => 1
def uptoBulkAll {H : Type} : List (DataW H) → Nat
  | [] => 0
  | d :: r => uptoBulk d + uptoBulkAll r
def uptoBulkEntries {H : Type} : List (Lit × DataW H) → Nat
  | [] => 0
  | x :: r => uptoBulkEntry x + uptoBulkEntries r
def uptoBulkEntry {H : Type} : Lit × DataW H → Nat
  | (.string bytes, d) => bytes.length + uptoBulk d + 1
  | (_, d) => uptoBulk d + 1
 end
def uptoSmall : (H : Type) → List (DataW H) → Bool := fun _ ds => decide (uptoBulkAll ds ≤ 1048576)
def OpenSpec.upto (s : _root_.Go.ChangeSpec) : _root_.Go.OpenSpec := { _root_.Go.OpenSpec.ofChange s with cond := some uptoSmall }

/-- 'warderlaw17.ServerBound', WHERE WHAT IT READS IS OF BULK AT MOST 1048576: true; the input reads as it did. -/
def serverBoundUptoRow : OpenClaim := { program := "ytokiakcmdbihhaa", sum := "69820ba90136b3a791d09cf9c4a40b1fd1949151b30297c967a921d281fea566", func := "warder/warderlaw17.ServerBound", spec := "serverBound", unfollowed := true, recurses := true, apart := false, narrowed := true }
def ServerBoundUptoSaid : Prop := serverBoundUptoRow.holds Try.pinned (OpenSpec.upto serverBoundSpec)

/-- 'warderlaw17.ServerWhole', WHERE WHAT IT READS IS OF BULK AT MOST 1048576: true; the input reads as it did. -/
def serverWholeUptoRow : OpenClaim := { program := "ytokiakcmdbihhaa", sum := "69820ba90136b3a791d09cf9c4a40b1fd1949151b30297c967a921d281fea566", func := "warder/warderlaw17.ServerWhole", spec := "serverWhole", unfollowed := true, recurses := true, apart := false, narrowed := true }
def ServerWholeUptoSaid : Prop := serverWholeUptoRow.holds Try.pinned (OpenSpec.upto serverWholeSpec)

/-- 'warderlaw17.ServerBack', WHERE WHAT IT READS IS OF BULK AT MOST 1048576: true; the input reads as it did. -/
def serverBackUptoRow : OpenClaim := { program := "ytokiakcmdbihhaa", sum := "69820ba90136b3a791d09cf9c4a40b1fd1949151b30297c967a921d281fea566", func := "warder/warderlaw17.ServerBack", spec := "serverBack", unfollowed := true, recurses := true, apart := false, narrowed := true }
def ServerBackUptoSaid : Prop := serverBackUptoRow.holds Try.pinned (OpenSpec.upto serverBackSpec)

/-- 'warderlaw17.ServerWakes', WHERE WHAT IT READS IS OF BULK AT MOST 1048576: true; the input reads as it did. -/
def serverWakesUptoRow : OpenClaim := { program := "ytokiakcmdbihhaa", sum := "69820ba90136b3a791d09cf9c4a40b1fd1949151b30297c967a921d281fea566", func := "warder/warderlaw17.ServerWakes", spec := "serverWakes", unfollowed := true, recurses := true, apart := false, narrowed := true }
def ServerWakesUptoSaid : Prop := serverWakesUptoRow.holds Try.pinned (OpenSpec.upto serverWakesSpec)

/-- 'warderlaw17.ServerRests', WHERE WHAT IT READS IS OF BULK AT MOST 1048576: true; the input reads as it did. -/
def serverRestsUptoRow : OpenClaim := { program := "ytokiakcmdbihhaa", sum := "69820ba90136b3a791d09cf9c4a40b1fd1949151b30297c967a921d281fea566", func := "warder/warderlaw17.ServerRests", spec := "serverRests", unfollowed := true, recurses := true, apart := false, narrowed := true }
def ServerRestsUptoSaid : Prop := serverRestsUptoRow.holds Try.pinned (OpenSpec.upto serverRestsSpec)

end Rows
end Go.Proofs.Ytokiakcmdbihhaa

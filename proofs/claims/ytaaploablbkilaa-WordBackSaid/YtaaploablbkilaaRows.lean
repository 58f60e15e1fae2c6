/-
  No cell of these rows narrows 'for every input' (looked for: loops, veiled, ifaces, maps, wideKeys, modest, calm, conditions, laid).
  DERIVED. THE GIVEN ROWS OF THIS SEAT. 6 by the template 'for every input the law returns true; each argument reads behind the call as it read before'; 0 by the template 'total and deterministic' (their statements: YtaaploablbkilaaTotals.lean).
  GIVEN WITH THE SEED: the statements are not yours to turn. If you find one false, say at which input.
  Laid BY PROGRAM, IN A SANDBOX (cutbox-rows.mjs): the forced cells as the released guide's own fill.sh prints them over the translation c6c2efe57716c65b… (all of the seat's roots in one cut). By AI agents, Wed Nov 11 2026. No macro, syntax, notation, axiom, sorry.
-/
import Derived.Test.YtaaploablbkilaaChecked
import GoSem.Claim
import GoSem.ClaimJoined
import GoSem.ClaimMapViews
import Derived.JoinedTies
import Derived.KernelRfl
namespace Go.Proofs.Ytaaploablbkilaa
/- THE CELL 'sum', in the pinned program and in every row, IS THE sha256 OF THE DUMP (.gsa) THAT YtaaploablbkilaaProg.lean LOADS. Nothing in Lean hashes anything: it is a label: what it is worth is what the hold of that sum in a sandbox is worth. -/
noncomputable def Try.pinned : Pinned := { name := "ytaaploablbkilaa", sum := "c6c2efe57716c65bdaaa97fa000b31e29bccc178a971e74d0d209e1177a73151", checked := Try.checked }
namespace Rows
def none {H : Type} : Left H := { results := [], args := [] }

/-- 'warderlaw01.WordFields': WHATEVER THE INPUT: true; the input reads as it did. -/
def wordFieldsSpec : ChangeSpec := { name := "wordFields", fn := fun _ => fun
  | [d1, d2, d3, d4] => { results := [.lit (.bool true)], args := [d1, d2, d3, d4] }
  | _ => none }
def wordFieldsRow : OpenClaim := { program := "ytaaploablbkilaa", sum := "c6c2efe57716c65bdaaa97fa000b31e29bccc178a971e74d0d209e1177a73151", func := "warder/warderlaw01.WordFields", spec := "wordFields", inPlace := ["math/bits.Add64"], named := ["math/bits.divideError", "math/bits.overflowError"], apart := false }
def WordFieldsSaid : Prop := wordFieldsRow.holds Try.pinned (OpenSpec.ofChange wordFieldsSpec)

/-- ITS FALSE NEIGHBOUR: 'it returns false'. Refute it at one input. -/
def wordFieldsWrong : ChangeSpec := { name := "wordFields", fn := fun _ => fun
  | [d1, d2, d3, d4] => { results := [.lit (.bool false)], args := [d1, d2, d3, d4] }
  | _ => none }
def WordFieldsWrongFalsely : Prop := wordFieldsRow.holds Try.pinned (OpenSpec.ofChange wordFieldsWrong)

/-- 'warderlaw01.WordBytes': WHATEVER THE INPUT: true; the input reads as it did. -/
def wordBytesSpec : ChangeSpec := { name := "wordBytes", fn := fun _ => fun
  | [d1, d2, d3, d4] => { results := [.lit (.bool true)], args := [d1, d2, d3, d4] }
  | _ => none }
def wordBytesRow : OpenClaim := { program := "ytaaploablbkilaa", sum := "c6c2efe57716c65bdaaa97fa000b31e29bccc178a971e74d0d209e1177a73151", func := "warder/warderlaw01.WordBytes", spec := "wordBytes", inPlace := ["math/bits.Add64"], named := ["math/bits.divideError", "math/bits.overflowError"], apart := false }
def WordBytesSaid : Prop := wordBytesRow.holds Try.pinned (OpenSpec.ofChange wordBytesSpec)

/-- ITS FALSE NEIGHBOUR: 'it returns false'. Refute it at one input. -/
def wordBytesWrong : ChangeSpec := { name := "wordBytes", fn := fun _ => fun
  | [d1, d2, d3, d4] => { results := [.lit (.bool false)], args := [d1, d2, d3, d4] }
  | _ => none }
def WordBytesWrongFalsely : Prop := wordBytesRow.holds Try.pinned (OpenSpec.ofChange wordBytesWrong)

/-- 'warderlaw01.WordWides': WHATEVER THE INPUT: true; the input reads as it did. -/
def wordWidesSpec : ChangeSpec := { name := "wordWides", fn := fun _ => fun
  | [d1, d2, d3, d4] => { results := [.lit (.bool true)], args := [d1, d2, d3, d4] }
  | _ => none }
def wordWidesRow : OpenClaim := { program := "ytaaploablbkilaa", sum := "c6c2efe57716c65bdaaa97fa000b31e29bccc178a971e74d0d209e1177a73151", func := "warder/warderlaw01.WordWides", spec := "wordWides", inPlace := ["math/bits.Add64"], named := ["math/bits.divideError", "math/bits.overflowError"], apart := false }
def WordWidesSaid : Prop := wordWidesRow.holds Try.pinned (OpenSpec.ofChange wordWidesSpec)

/-- ITS FALSE NEIGHBOUR: 'it returns false'. Refute it at one input. -/
def wordWidesWrong : ChangeSpec := { name := "wordWides", fn := fun _ => fun
  | [d1, d2, d3, d4] => { results := [.lit (.bool false)], args := [d1, d2, d3, d4] }
  | _ => none }
def WordWidesWrongFalsely : Prop := wordWidesRow.holds Try.pinned (OpenSpec.ofChange wordWidesWrong)

/-- 'warderlaw01.WordBack': WHATEVER THE INPUT: true; the input reads as it did. -/
def wordBackSpec : ChangeSpec := { name := "wordBack", fn := fun _ => fun
  | [d1, d2, d3, d4, d5] => { results := [.lit (.bool true)], args := [d1, d2, d3, d4, d5] }
  | _ => none }
def wordBackRow : OpenClaim := { program := "ytaaploablbkilaa", sum := "c6c2efe57716c65bdaaa97fa000b31e29bccc178a971e74d0d209e1177a73151", func := "warder/warderlaw01.WordBack", spec := "wordBack", inPlace := ["math/bits.Add64"], named := ["math/bits.divideError", "math/bits.overflowError"], apart := false }
def WordBackSaid : Prop := wordBackRow.holds Try.pinned (OpenSpec.ofChange wordBackSpec)

/-- ITS FALSE NEIGHBOUR: 'it returns false'. Refute it at one input. -/
def wordBackWrong : ChangeSpec := { name := "wordBack", fn := fun _ => fun
  | [d1, d2, d3, d4, d5] => { results := [.lit (.bool false)], args := [d1, d2, d3, d4, d5] }
  | _ => none }
def WordBackWrongFalsely : Prop := wordBackRow.holds Try.pinned (OpenSpec.ofChange wordBackWrong)

/-- 'warderlaw01.WordDivs': WHATEVER THE INPUT: true; the input reads as it did. -/
def wordDivsSpec : ChangeSpec := { name := "wordDivs", fn := fun _ => fun
  | [d1, d2, d3] => { results := [.lit (.bool true)], args := [d1, d2, d3] }
  | _ => none }
def wordDivsRow : OpenClaim := { program := "ytaaploablbkilaa", sum := "c6c2efe57716c65bdaaa97fa000b31e29bccc178a971e74d0d209e1177a73151", func := "warder/warderlaw01.WordDivs", spec := "wordDivs", inPlace := ["math/bits.Add64"], named := ["math/bits.divideError", "math/bits.overflowError"], apart := false }
def WordDivsSaid : Prop := wordDivsRow.holds Try.pinned (OpenSpec.ofChange wordDivsSpec)

/-- ITS FALSE NEIGHBOUR: 'it returns false'. Refute it at one input. -/
def wordDivsWrong : ChangeSpec := { name := "wordDivs", fn := fun _ => fun
  | [d1, d2, d3] => { results := [.lit (.bool false)], args := [d1, d2, d3] }
  | _ => none }
def WordDivsWrongFalsely : Prop := wordDivsRow.holds Try.pinned (OpenSpec.ofChange wordDivsWrong)

/-- 'warderlaw01.WordMuls': WHATEVER THE INPUT: true; the input reads as it did. -/
def wordMulsSpec : ChangeSpec := { name := "wordMuls", fn := fun _ => fun
  | [d1, d2, d3] => { results := [.lit (.bool true)], args := [d1, d2, d3] }
  | _ => none }
def wordMulsRow : OpenClaim := { program := "ytaaploablbkilaa", sum := "c6c2efe57716c65bdaaa97fa000b31e29bccc178a971e74d0d209e1177a73151", func := "warder/warderlaw01.WordMuls", spec := "wordMuls", inPlace := ["math/bits.Add64"], named := ["math/bits.divideError", "math/bits.overflowError"], apart := false }
def WordMulsSaid : Prop := wordMulsRow.holds Try.pinned (OpenSpec.ofChange wordMulsSpec)

/-- ITS FALSE NEIGHBOUR: 'it returns false'. Refute it at one input. -/
def wordMulsWrong : ChangeSpec := { name := "wordMuls", fn := fun _ => fun
  | [d1, d2, d3] => { results := [.lit (.bool false)], args := [d1, d2, d3] }
  | _ => none }
def WordMulsWrongFalsely : Prop := wordMulsRow.holds Try.pinned (OpenSpec.ofChange wordMulsWrong)

/- THE SECOND FORM. 'bulk': how many values and letters a reading holds, each counted each time it is reached (what is shared counts as often as it is met; a slice's spare places count too). A statement '..UptoSaid' is the law's where the arguments, and the package variables that the reading takes, are together of bulk at most 1048576: NARROWER than '..Said'. Prove '..Said' where nothing that the law and all that it calls make is longer than what came in: it says more and counts as full. Else prove '..UptoSaid'. A law counts once. -/
mutual
def uptoBulk {H : Type} : DataW H → Nat
  | .lit (.string bytes) => bytes.length + 1
  | .lit _ => 1
  | .nil => 1
  | .ptr d => uptoBulk d + 1
  | .slice elems spare => uptoBulkAll elems + uptoBulkAll spare + 1
  | .agg parts => uptoBulkAll parts + 1
  | .iface _ d => uptoBulk d + 1
  | .map entries => uptoBulkEntries entries + 1
  | .held _ => 1
def uptoBulkAll {H : Type} : List (DataW H) → Nat
  | [] => 0
  | d :: r => uptoBulk d + uptoBulkAll r
def uptoBulkEntries {H : Type} : List (Lit × DataW H) → Nat
  | [] => 0
  | x :: r => uptoBulkEntry x + uptoBulkEntries r
def uptoBulkEntry {H : Type} : Lit × DataW H → Nat
  | (.string bytes, d) => bytes.length + uptoBulk d + 1
  | (_, d) => uptoBulk d + 1
 end
def uptoSmall : (H : Type) → List (DataW H) → Bool := fun _ ds => decide (uptoBulkAll ds ≤ 1048576)
def OpenSpec.upto (s : _root_.Go.ChangeSpec) : _root_.Go.OpenSpec := { _root_.Go.OpenSpec.ofChange s with cond := some uptoSmall }

/-- 'warderlaw01.WordFields', WHERE WHAT IT READS IS OF BULK AT MOST 1048576: true; the input reads as it did. -/
def wordFieldsUptoRow : OpenClaim := { program := "ytaaploablbkilaa", sum := "c6c2efe57716c65bdaaa97fa000b31e29bccc178a971e74d0d209e1177a73151", func := "warder/warderlaw01.WordFields", spec := "wordFields", inPlace := ["math/bits.Add64"], named := ["math/bits.divideError", "math/bits.overflowError"], apart := false, narrowed := true }
def WordFieldsUptoSaid : Prop := wordFieldsUptoRow.holds Try.pinned (OpenSpec.upto wordFieldsSpec)

/-- 'warderlaw01.WordBytes', WHERE WHAT IT READS IS OF BULK AT MOST 1048576: true; the input reads as it did. -/
def wordBytesUptoRow : OpenClaim := { program := "ytaaploablbkilaa", sum := "c6c2efe57716c65bdaaa97fa000b31e29bccc178a971e74d0d209e1177a73151", func := "warder/warderlaw01.WordBytes", spec := "wordBytes", inPlace := ["math/bits.Add64"], named := ["math/bits.divideError", "math/bits.overflowError"], apart := false, narrowed := true }
def WordBytesUptoSaid : Prop := wordBytesUptoRow.holds Try.pinned (OpenSpec.upto wordBytesSpec)

/-- 'warderlaw01.WordWides', WHERE WHAT IT READS IS OF BULK AT MOST 1048576: true; the input reads as it did. -/
def wordWidesUptoRow : OpenClaim := { program := "ytaaploablbkilaa", sum := "c6c2efe57716c65bdaaa97fa000b31e29bccc178a971e74d0d209e1177a73151", func := "warder/warderlaw01.WordWides", spec := "wordWides", inPlace := ["math/bits.Add64"], named := ["math/bits.divideError", "math/bits.overflowError"], apart := false, narrowed := true }
def WordWidesUptoSaid : Prop := wordWidesUptoRow.holds Try.pinned (OpenSpec.upto wordWidesSpec)

/-- 'warderlaw01.WordBack', WHERE WHAT IT READS IS OF BULK AT MOST 1048576: true; the input reads as it did. -/
def wordBackUptoRow : OpenClaim := { program := "ytaaploablbkilaa", sum := "c6c2efe57716c65bdaaa97fa000b31e29bccc178a971e74d0d209e1177a73151", func := "warder/warderlaw01.WordBack", spec := "wordBack", inPlace := ["math/bits.Add64"], named := ["math/bits.divideError", "math/bits.overflowError"], apart := false, narrowed := true }
def WordBackUptoSaid : Prop := wordBackUptoRow.holds Try.pinned (OpenSpec.upto wordBackSpec)

/-- 'warderlaw01.WordDivs', WHERE WHAT IT READS IS OF BULK AT MOST 1048576: true; the input reads as it did. -/
def wordDivsUptoRow : OpenClaim := { program := "ytaaploablbkilaa", sum := "c6c2efe57716c65bdaaa97fa000b31e29bccc178a971e74d0d209e1177a73151", func := "warder/warderlaw01.WordDivs", spec := "wordDivs", inPlace := ["math/bits.Add64"], named := ["math/bits.divideError", "math/bits.overflowError"], apart := false, narrowed := true }
def WordDivsUptoSaid : Prop := wordDivsUptoRow.holds Try.pinned (OpenSpec.upto wordDivsSpec)

/-- 'warderlaw01.WordMuls', WHERE WHAT IT READS IS OF BULK AT MOST 1048576: true; the input reads as it did. -/
def wordMulsUptoRow : OpenClaim := { program := "ytaaploablbkilaa", sum := "c6c2efe57716c65bdaaa97fa000b31e29bccc178a971e74d0d209e1177a73151", func := "warder/warderlaw01.WordMuls", spec := "wordMuls", inPlace := ["math/bits.Add64"], named := ["math/bits.divideError", "math/bits.overflowError"], apart := false, narrowed := true }
def WordMulsUptoSaid : Prop := wordMulsUptoRow.holds Try.pinned (OpenSpec.upto wordMulsSpec)

end Rows
end Go.Proofs.Ytaaploablbkilaa

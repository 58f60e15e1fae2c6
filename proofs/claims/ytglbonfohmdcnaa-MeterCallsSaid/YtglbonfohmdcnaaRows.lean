/-
  No cell of these rows narrows 'for every input' (looked for: loops, veiled, ifaces, maps, wideKeys, modest, calm, conditions, laid).
  DERIVED. THE GIVEN ROWS OF THIS SEAT. 4 by the template 'for every input the law returns true; each argument reads behind the call as it read before'; 0 by the template 'total and deterministic' (their statements: YtglbonfohmdcnaaTotals.lean).
  GIVEN WITH THE SEED: the statements are not yours to turn. If you find one false, say at which input.
  Laid BY PROGRAM, IN A SANDBOX (cutbox-rows.mjs): the forced cells as the released guide's own fill.sh prints them over the translation 0d1b0e77b38baf06… (all of the seat's roots in one cut). By AI agents, Wed Nov 11 2026. No macro, syntax, notation, axiom, sorry.
-/
import Derived.Test.YtglbonfohmdcnaaChecked
import GoSem.Claim
import GoSem.ClaimJoined
import GoSem.ClaimMapViews
import Derived.JoinedTies
import Derived.KernelRfl
namespace Go.Proofs.Ytglbonfohmdcnaa
/- THE CELL 'sum', in the pinned program and in every row, IS THE sha256 OF THE DUMP (.gsa) THAT YtglbonfohmdcnaaProg.lean LOADS. Nothing in Lean hashes anything: it is a label: what it is worth is what the hold of that sum in a sandbox is worth. -/
noncomputable def Try.pinned : Pinned := { name := "ytglbonfohmdcnaa", sum := "0d1b0e77b38baf06fc336689b2d9e5ce84aaddc5f83de38c8a08b50c7233b783", checked := Try.checked }
namespace Rows
def none {H : Type} : Left H := { results := [], args := [] }

/-- 'warderlaw05.MeterCalls': WHATEVER THE INPUT: true; the input reads as it did. -/
def meterCallsSpec : ChangeSpec := { name := "meterCalls", fn := fun _ => fun
  | [d1, d2, d3, d4] => { results := [.lit (.bool true)], args := [d1, d2, d3, d4] }
  | _ => none }
def meterCallsRow : OpenClaim := { program := "ytglbonfohmdcnaa", sum := "0d1b0e77b38baf06fc336689b2d9e5ce84aaddc5f83de38c8a08b50c7233b783", func := "warder/warderlaw05.MeterCalls", spec := "meterCalls", apart := false }
def MeterCallsSaid : Prop := meterCallsRow.holds Try.pinned (OpenSpec.ofChange meterCallsSpec)

/-- ITS FALSE NEIGHBOUR: 'it returns false'. Refute it at one input. -/
def meterCallsWrong : ChangeSpec := { name := "meterCalls", fn := fun _ => fun
  | [d1, d2, d3, d4] => { results := [.lit (.bool false)], args := [d1, d2, d3, d4] }
  | _ => none }
def MeterCallsWrongFalsely : Prop := meterCallsRow.holds Try.pinned (OpenSpec.ofChange meterCallsWrong)

/-- 'warderlaw05.MeterSums': WHATEVER THE INPUT: true; the input reads as it did. -/
def meterSumsSpec : ChangeSpec := { name := "meterSums", fn := fun _ => fun
  | [d] => { results := [.lit (.bool true)], args := [d] }
  | _ => none }
def meterSumsRow : OpenClaim := { program := "ytglbonfohmdcnaa", sum := "0d1b0e77b38baf06fc336689b2d9e5ce84aaddc5f83de38c8a08b50c7233b783", func := "warder/warderlaw05.MeterSums", spec := "meterSums", apart := false }
def MeterSumsSaid : Prop := meterSumsRow.holds Try.pinned (OpenSpec.ofChange meterSumsSpec)

/-- ITS FALSE NEIGHBOUR: 'it returns false'. Refute it at one input. -/
def meterSumsWrong : ChangeSpec := { name := "meterSums", fn := fun _ => fun
  | [d] => { results := [.lit (.bool false)], args := [d] }
  | _ => none }
def MeterSumsWrongFalsely : Prop := meterSumsRow.holds Try.pinned (OpenSpec.ofChange meterSumsWrong)

/-- 'warderlaw05.MeterLeast': WHATEVER THE INPUT: true; the input reads as it did. -/
def meterLeastSpec : ChangeSpec := { name := "meterLeast", fn := fun _ => fun
  | [d1, d2] => { results := [.lit (.bool true)], args := [d1, d2] }
  | _ => none }
def meterLeastRow : OpenClaim := { program := "ytglbonfohmdcnaa", sum := "0d1b0e77b38baf06fc336689b2d9e5ce84aaddc5f83de38c8a08b50c7233b783", func := "warder/warderlaw05.MeterLeast", spec := "meterLeast", apart := false }
def MeterLeastSaid : Prop := meterLeastRow.holds Try.pinned (OpenSpec.ofChange meterLeastSpec)

/-- ITS FALSE NEIGHBOUR: 'it returns false'. Refute it at one input. -/
def meterLeastWrong : ChangeSpec := { name := "meterLeast", fn := fun _ => fun
  | [d1, d2] => { results := [.lit (.bool false)], args := [d1, d2] }
  | _ => none }
def MeterLeastWrongFalsely : Prop := meterLeastRow.holds Try.pinned (OpenSpec.ofChange meterLeastWrong)

/-- 'warderlaw05.MeterApart': WHATEVER THE INPUT: true; the input reads as it did. -/
def meterApartSpec : ChangeSpec := { name := "meterApart", fn := fun _ => fun
  | [d1, d2] => { results := [.lit (.bool true)], args := [d1, d2] }
  | _ => none }
def meterApartRow : OpenClaim := { program := "ytglbonfohmdcnaa", sum := "0d1b0e77b38baf06fc336689b2d9e5ce84aaddc5f83de38c8a08b50c7233b783", func := "warder/warderlaw05.MeterApart", spec := "meterApart", apart := false }
def MeterApartSaid : Prop := meterApartRow.holds Try.pinned (OpenSpec.ofChange meterApartSpec)

/-- ITS FALSE NEIGHBOUR: 'it returns false'. Refute it at one input. -/
def meterApartWrong : ChangeSpec := { name := "meterApart", fn := fun _ => fun
  | [d1, d2] => { results := [.lit (.bool false)], args := [d1, d2] }
  | _ => none }
def MeterApartWrongFalsely : Prop := meterApartRow.holds Try.pinned (OpenSpec.ofChange meterApartWrong)

/- THE SECOND FORM. 'bulk': how many values and letters a reading holds, each counted each time it is reached (what is shared counts as often as it is met; a slice's spare places count too). A statement '..UptoSaid' is the law's where the arguments, and the package variables that the reading takes, are together of bulk at most 1048576: NARROWER than '..Said'. Prove '..Said' where nothing that the law and all that it calls make is longer than what came in: it says more and counts as full. Else prove '..UptoSaid'. A law counts once. -/
mutual
def uptoBulk {H : Type} : DataW H → Nat
  | .lit (.string bytes) => bytes.length + 1
  | .lit _ => 1
  | .nil => 1
  | .ptr d => uptoBulk d + 1
  | .slice elems spare => uptoBulkAll elems + uptoBulkAll spare + 1
  | .agg parts => uptoBulkAll parts + 1
  | .iface _ d => uptoBulk d + 1
  | .map entries => uptoBulkEntries entries + 1
  | .held _ => 1
def uptoBulkAll {H : Type} : List (DataW H) → Nat
  | [] => 0
  | d :: r => uptoBulk d + uptoBulkAll r
def uptoBulkEntries {H : Type} : List (Lit × DataW H) → Nat
  | [] => 0
  | x :: r => uptoBulkEntry x + uptoBulkEntries r
def uptoBulkEntry {H : Type} : Lit × DataW H → Nat
  | (.string bytes, d) => bytes.length + uptoBulk d + 1
  | (_, d) => uptoBulk d + 1
 end
def uptoSmall : (H : Type) → List (DataW H) → Bool := fun _ ds => decide (uptoBulkAll ds ≤ 1048576)
def OpenSpec.upto (s : _root_.Go.ChangeSpec) : _root_.Go.OpenSpec := { _root_.Go.OpenSpec.ofChange s with cond := some uptoSmall }

/-- 'warderlaw05.MeterCalls', WHERE WHAT IT READS IS OF BULK AT MOST 1048576: true; the input reads as it did. -/
def meterCallsUptoRow : OpenClaim := { program := "ytglbonfohmdcnaa", sum := "0d1b0e77b38baf06fc336689b2d9e5ce84aaddc5f83de38c8a08b50c7233b783", func := "warder/warderlaw05.MeterCalls", spec := "meterCalls", apart := false, narrowed := true }
def MeterCallsUptoSaid : Prop := meterCallsUptoRow.holds Try.pinned (OpenSpec.upto meterCallsSpec)

/-- 'warderlaw05.MeterSums', WHERE WHAT IT READS IS OF BULK AT MOST 1048576: true; the input reads as it did. -/
def meterSumsUptoRow : OpenClaim := { program := "ytglbonfohmdcnaa", sum := "0d1b0e77b38baf06fc336689b2d9e5ce84aaddc5f83de38c8a08b50c7233b783", func := "warder/warderlaw05.MeterSums", spec := "meterSums", apart := false, narrowed := true }
def MeterSumsUptoSaid : Prop := meterSumsUptoRow.holds Try.pinned (OpenSpec.upto meterSumsSpec)

/-- 'warderlaw05.MeterLeast', WHERE WHAT IT READS IS OF BULK AT MOST 1048576: true; the input reads as it did. -/
def meterLeastUptoRow : OpenClaim := { program := "ytglbonfohmdcnaa", sum := "0d1b0e77b38baf06fc336689b2d9e5ce84aaddc5f83de38c8a08b50c7233b783", func := "warder/warderlaw05.MeterLeast", spec := "meterLeast", apart := false, narrowed := true }
def MeterLeastUptoSaid : Prop := meterLeastUptoRow.holds Try.pinned (OpenSpec.upto meterLeastSpec)

/-- 'warderlaw05.MeterApart', WHERE WHAT IT READS IS OF BULK AT MOST 1048576: true; the input reads as it did. -/
def meterApartUptoRow : OpenClaim := { program := "ytglbonfohmdcnaa", sum := "0d1b0e77b38baf06fc336689b2d9e5ce84aaddc5f83de38c8a08b50c7233b783", func := "warder/warderlaw05.MeterApart", spec := "meterApart", apart := false, narrowed := true }
def MeterApartUptoSaid : Prop := meterApartUptoRow.holds Try.pinned (OpenSpec.upto meterApartSpec)

end Rows
end Go.Proofs.Ytglbonfohmdcnaa

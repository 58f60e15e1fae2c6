/-
  No cell of these rows narrows 'for every input' (looked for: loops, veiled, ifaces, maps, wideKeys, modest, calm, conditions, laid).
  DERIVED. THE GIVEN ROWS OF THIS SEAT. 7 by the template 'for every input the law returns true; each argument reads behind the call as it read before'; 0 by the template 'total and deterministic' (their statements: YtijpjhelgggmfaaTotals.lean).
  GIVEN WITH THE SEED: the statements are not yours to turn. If you find one false, say at which input.
  Laid BY PROGRAM, IN A SANDBOX (cutbox-rows.mjs): the forced cells as the released guide's own fill.sh prints them over the translation 2d814f68d96c1a5e… (all of the seat's roots in one cut). By AI agents, Wed Nov 11 2026. No macro, syntax, notation, axiom, sorry.
-/
import Derived.Test.YtijpjhelgggmfaaChecked
import GoSem.Claim
import GoSem.ClaimJoined
import GoSem.ClaimMapViews
import Derived.JoinedTies
import Derived.KernelRfl
namespace Go.Proofs.Ytijpjhelgggmfaa
/- THE CELL 'sum', in the pinned program and in every row, IS THE sha256 OF THE DUMP (.gsa) THAT YtijpjhelgggmfaaProg.lean LOADS. Nothing in Lean hashes anything: it is a label: what it is worth is what the hold of that sum in a sandbox is worth. -/
noncomputable def Try.pinned : Pinned := { name := "ytijpjhelgggmfaa", sum := "2d814f68d96c1a5e541dd7d72933b73ddc5426e73e84e55c5f3093837b39c34e", checked := Try.checked }
namespace Rows
def none {H : Type} : Left H := { results := [], args := [] }

/-- 'warderlaw18.AdmitAnswers': WHATEVER THE INPUT: true; the input reads as it did. -/
def admitAnswersSpec : ChangeSpec := { name := "admitAnswers", fn := fun _ => fun
  | [d1, d2] => { results := [.lit (.bool true)], args := [d1, d2] }
  | _ => none }
def admitAnswersRow : OpenClaim := { program := "ytijpjhelgggmfaa", sum := "2d814f68d96c1a5e541dd7d72933b73ddc5426e73e84e55c5f3093837b39c34e", func := "warder/warderlaw18.AdmitAnswers", spec := "admitAnswers", inPlace := ["math/bits.Add64"], unfollowed := true, recurses := true, named := ["math/bits.divideError", "math/bits.overflowError"], apart := false }
def AdmitAnswersSaid : Prop := admitAnswersRow.holds Try.pinned (OpenSpec.ofChange admitAnswersSpec)

/-- ITS FALSE NEIGHBOUR: 'it returns false'. Refute it at one input. -/
def admitAnswersWrong : ChangeSpec := { name := "admitAnswers", fn := fun _ => fun
  | [d1, d2] => { results := [.lit (.bool false)], args := [d1, d2] }
  | _ => none }
def AdmitAnswersWrongFalsely : Prop := admitAnswersRow.holds Try.pinned (OpenSpec.ofChange admitAnswersWrong)

/-- 'warderlaw18.AdmitDemands': WHATEVER THE INPUT: true; the input reads as it did. -/
def admitDemandsSpec : ChangeSpec := { name := "admitDemands", fn := fun _ => fun
  | [d1, d2] => { results := [.lit (.bool true)], args := [d1, d2] }
  | _ => none }
def admitDemandsRow : OpenClaim := { program := "ytijpjhelgggmfaa", sum := "2d814f68d96c1a5e541dd7d72933b73ddc5426e73e84e55c5f3093837b39c34e", func := "warder/warderlaw18.AdmitDemands", spec := "admitDemands", inPlace := ["math/bits.Add64"], unfollowed := true, recurses := true, named := ["math/bits.divideError", "math/bits.overflowError"], apart := false }
def AdmitDemandsSaid : Prop := admitDemandsRow.holds Try.pinned (OpenSpec.ofChange admitDemandsSpec)

/-- ITS FALSE NEIGHBOUR: 'it returns false'. Refute it at one input. -/
def admitDemandsWrong : ChangeSpec := { name := "admitDemands", fn := fun _ => fun
  | [d1, d2] => { results := [.lit (.bool false)], args := [d1, d2] }
  | _ => none }
def AdmitDemandsWrongFalsely : Prop := admitDemandsRow.holds Try.pinned (OpenSpec.ofChange admitDemandsWrong)

/-- 'warderlaw18.AdmitLess': WHATEVER THE INPUT: true; the input reads as it did. -/
def admitLessSpec : ChangeSpec := { name := "admitLess", fn := fun _ => fun
  | [d1, d2] => { results := [.lit (.bool true)], args := [d1, d2] }
  | _ => none }
def admitLessRow : OpenClaim := { program := "ytijpjhelgggmfaa", sum := "2d814f68d96c1a5e541dd7d72933b73ddc5426e73e84e55c5f3093837b39c34e", func := "warder/warderlaw18.AdmitLess", spec := "admitLess", inPlace := ["math/bits.Add64"], unfollowed := true, recurses := true, named := ["math/bits.divideError", "math/bits.overflowError"], apart := false }
def AdmitLessSaid : Prop := admitLessRow.holds Try.pinned (OpenSpec.ofChange admitLessSpec)

/-- ITS FALSE NEIGHBOUR: 'it returns false'. Refute it at one input. -/
def admitLessWrong : ChangeSpec := { name := "admitLess", fn := fun _ => fun
  | [d1, d2] => { results := [.lit (.bool false)], args := [d1, d2] }
  | _ => none }
def AdmitLessWrongFalsely : Prop := admitLessRow.holds Try.pinned (OpenSpec.ofChange admitLessWrong)

/-- 'warderlaw18.AdmitSpare': WHATEVER THE INPUT: true; the input reads as it did. -/
def admitSpareSpec : ChangeSpec := { name := "admitSpare", fn := fun _ => fun
  | [d1, d2] => { results := [.lit (.bool true)], args := [d1, d2] }
  | _ => none }
def admitSpareRow : OpenClaim := { program := "ytijpjhelgggmfaa", sum := "2d814f68d96c1a5e541dd7d72933b73ddc5426e73e84e55c5f3093837b39c34e", func := "warder/warderlaw18.AdmitSpare", spec := "admitSpare", inPlace := ["math/bits.Add64"], unfollowed := true, recurses := true, named := ["math/bits.divideError", "math/bits.overflowError"], apart := false }
def AdmitSpareSaid : Prop := admitSpareRow.holds Try.pinned (OpenSpec.ofChange admitSpareSpec)

/-- ITS FALSE NEIGHBOUR: 'it returns false'. Refute it at one input. -/
def admitSpareWrong : ChangeSpec := { name := "admitSpare", fn := fun _ => fun
  | [d1, d2] => { results := [.lit (.bool false)], args := [d1, d2] }
  | _ => none }
def AdmitSpareWrongFalsely : Prop := admitSpareRow.holds Try.pinned (OpenSpec.ofChange admitSpareWrong)

/-- 'warderlaw18.AdmitScales': WHATEVER THE INPUT: true; the input reads as it did. -/
def admitScalesSpec : ChangeSpec := { name := "admitScales", fn := fun _ => fun
  | [d1, d2] => { results := [.lit (.bool true)], args := [d1, d2] }
  | _ => none }
def admitScalesRow : OpenClaim := { program := "ytijpjhelgggmfaa", sum := "2d814f68d96c1a5e541dd7d72933b73ddc5426e73e84e55c5f3093837b39c34e", func := "warder/warderlaw18.AdmitScales", spec := "admitScales", inPlace := ["math/bits.Add64"], unfollowed := true, recurses := true, named := ["math/bits.divideError", "math/bits.overflowError"], apart := false }
def AdmitScalesSaid : Prop := admitScalesRow.holds Try.pinned (OpenSpec.ofChange admitScalesSpec)

/-- ITS FALSE NEIGHBOUR: 'it returns false'. Refute it at one input. -/
def admitScalesWrong : ChangeSpec := { name := "admitScales", fn := fun _ => fun
  | [d1, d2] => { results := [.lit (.bool false)], args := [d1, d2] }
  | _ => none }
def AdmitScalesWrongFalsely : Prop := admitScalesRow.holds Try.pinned (OpenSpec.ofChange admitScalesWrong)

/-- 'warderlaw18.AdmitSwitches': WHATEVER THE INPUT: true; the input reads as it did. -/
def admitSwitchesSpec : ChangeSpec := { name := "admitSwitches", fn := fun _ => fun
  | [d1, d2] => { results := [.lit (.bool true)], args := [d1, d2] }
  | _ => none }
def admitSwitchesRow : OpenClaim := { program := "ytijpjhelgggmfaa", sum := "2d814f68d96c1a5e541dd7d72933b73ddc5426e73e84e55c5f3093837b39c34e", func := "warder/warderlaw18.AdmitSwitches", spec := "admitSwitches", inPlace := ["math/bits.Add64"], unfollowed := true, recurses := true, named := ["math/bits.divideError", "math/bits.overflowError"], apart := false }
def AdmitSwitchesSaid : Prop := admitSwitchesRow.holds Try.pinned (OpenSpec.ofChange admitSwitchesSpec)

/-- ITS FALSE NEIGHBOUR: 'it returns false'. Refute it at one input. -/
def admitSwitchesWrong : ChangeSpec := { name := "admitSwitches", fn := fun _ => fun
  | [d1, d2] => { results := [.lit (.bool false)], args := [d1, d2] }
  | _ => none }
def AdmitSwitchesWrongFalsely : Prop := admitSwitchesRow.holds Try.pinned (OpenSpec.ofChange admitSwitchesWrong)

/-- 'warderlaw18.AdmitServers': WHATEVER THE INPUT: true; the input reads as it did. -/
def admitServersSpec : ChangeSpec := { name := "admitServers", fn := fun _ => fun
  | [d1, d2] => { results := [.lit (.bool true)], args := [d1, d2] }
  | _ => none }
def admitServersRow : OpenClaim := { program := "ytijpjhelgggmfaa", sum := "2d814f68d96c1a5e541dd7d72933b73ddc5426e73e84e55c5f3093837b39c34e", func := "warder/warderlaw18.AdmitServers", spec := "admitServers", inPlace := ["math/bits.Add64"], unfollowed := true, recurses := true, named := ["math/bits.divideError", "math/bits.overflowError"], apart := false }
def AdmitServersSaid : Prop := admitServersRow.holds Try.pinned (OpenSpec.ofChange admitServersSpec)

/-- ITS FALSE NEIGHBOUR: 'it returns false'. Refute it at one input. -/
def admitServersWrong : ChangeSpec := { name := "admitServers", fn := fun _ => fun
  | [d1, d2] => { results := [.lit (.bool false)], args := [d1, d2] }
  | _ => none }
def AdmitServersWrongFalsely : Prop := admitServersRow.holds Try.pinned (OpenSpec.ofChange admitServersWrong)

/- THE SECOND FORM. 'bulk': how many values and letters a reading holds, each counted each time it is reached (what is shared counts as often as it is met; a slice's spare places count too). A statement '..UptoSaid' is the law's where the arguments, and the package variables that the reading takes, are together of bulk at most 1048576: NARROWER than '..Said'. Prove '..Said' where nothing that the law and all that it calls make is longer than what came in: it says more and counts as full. Else prove '..UptoSaid'. A law counts once. -/
mutual
def uptoBulk {H : Type} : DataW H → Nat
  | .lit (.string bytes) => bytes.length + 1
  | .lit _ => 1
  | .nil => 1
  | .ptr d => uptoBulk d + 1
  | .slice elems spare => uptoBulkAll elems + uptoBulkAll spare + 1
  | .agg parts => uptoBulkAll parts + 1
  | .iface _ d => uptoBulk d + 1
  | .map entries => uptoBulkEntries entries + 1
  | .held _ => 1
def uptoBulkAll {H : Type} : List (DataW H) → Nat
  | [] => 0
  | d :: r => uptoBulk d + uptoBulkAll r
def uptoBulkEntries {H : Type} : List (Lit × DataW H) → Nat
  | [] => 0
  | x :: r => uptoBulkEntry x + uptoBulkEntries r
def uptoBulkEntry {H : Type} : Lit × DataW H → Nat
  | (.string bytes, d) => bytes.length + uptoBulk d + 1
  | (_, d) => uptoBulk d + 1
 end
def uptoSmall : (H : Type) → List (DataW H) → Bool := fun _ ds => decide (uptoBulkAll ds ≤ 1048576)
def OpenSpec.upto (s : _root_.Go.ChangeSpec) : _root_.Go.OpenSpec := { _root_.Go.OpenSpec.ofChange s with cond := some uptoSmall }

/-- 'warderlaw18.AdmitAnswers', WHERE WHAT IT READS IS OF BULK AT MOST 1048576: true; the input reads as it did. -/
def admitAnswersUptoRow : OpenClaim := { program := "ytijpjhelgggmfaa", sum := "2d814f68d96c1a5e541dd7d72933b73ddc5426e73e84e55c5f3093837b39c34e", func := "warder/warderlaw18.AdmitAnswers", spec := "admitAnswers", inPlace := ["math/bits.Add64"], unfollowed := true, recurses := true, named := ["math/bits.divideError", "math/bits.overflowError"], apart := false, narrowed := true }
def AdmitAnswersUptoSaid : Prop := admitAnswersUptoRow.holds Try.pinned (OpenSpec.upto admitAnswersSpec)

/-- 'warderlaw18.AdmitDemands', WHERE WHAT IT READS IS OF BULK AT MOST 1048576: true; the input reads as it did. -/
def admitDemandsUptoRow : OpenClaim := { program := "ytijpjhelgggmfaa", sum := "2d814f68d96c1a5e541dd7d72933b73ddc5426e73e84e55c5f3093837b39c34e", func := "warder/warderlaw18.AdmitDemands", spec := "admitDemands", inPlace := ["math/bits.Add64"], unfollowed := true, recurses := true, named := ["math/bits.divideError", "math/bits.overflowError"], apart := false, narrowed := true }
def AdmitDemandsUptoSaid : Prop := admitDemandsUptoRow.holds Try.pinned (OpenSpec.upto admitDemandsSpec)

/-- 'warderlaw18.AdmitLess', WHERE WHAT IT READS IS OF BULK AT MOST 1048576: true; the input reads as it did. -/
def admitLessUptoRow : OpenClaim := { program := "ytijpjhelgggmfaa", sum := "2d814f68d96c1a5e541dd7d72933b73ddc5426e73e84e55c5f3093837b39c34e", func := "warder/warderlaw18.AdmitLess", spec := "admitLess", inPlace := ["math/bits.Add64"], unfollowed := true, recurses := true, named := ["math/bits.divideError", "math/bits.overflowError"], apart := false, narrowed := true }
def AdmitLessUptoSaid : Prop := admitLessUptoRow.holds Try.pinned (OpenSpec.upto admitLessSpec)

/-- 'warderlaw18.AdmitSpare', WHERE WHAT IT READS IS OF BULK AT MOST 1048576: true; the input reads as it did. -/
def admitSpareUptoRow : OpenClaim := { program := "ytijpjhelgggmfaa", sum := "2d814f68d96c1a5e541dd7d72933b73ddc5426e73e84e55c5f3093837b39c34e", func := "warder/warderlaw18.AdmitSpare", spec := "admitSpare", inPlace := ["math/bits.Add64"], unfollowed := true, recurses := true, named := ["math/bits.divideError", "math/bits.overflowError"], apart := false, narrowed := true }
def AdmitSpareUptoSaid : Prop := admitSpareUptoRow.holds Try.pinned (OpenSpec.upto admitSpareSpec)

/-- 'warderlaw18.AdmitScales', WHERE WHAT IT READS IS OF BULK AT MOST 1048576: true; the input reads as it did. -/
def admitScalesUptoRow : OpenClaim := { program := "ytijpjhelgggmfaa", sum := "2d814f68d96c1a5e541dd7d72933b73ddc5426e73e84e55c5f3093837b39c34e", func := "warder/warderlaw18.AdmitScales", spec := "admitScales", inPlace := ["math/bits.Add64"], unfollowed := true, recurses := true, named := ["math/bits.divideError", "math/bits.overflowError"], apart := false, narrowed := true }
def AdmitScalesUptoSaid : Prop := admitScalesUptoRow.holds Try.pinned (OpenSpec.upto admitScalesSpec)

/-- 'warderlaw18.AdmitSwitches', WHERE WHAT IT READS IS OF BULK AT MOST 1048576: true; the input reads as it did. -/
def admitSwitchesUptoRow : OpenClaim := { program := "ytijpjhelgggmfaa", sum := "2d814f68d96c1a5e541dd7d72933b73ddc5426e73e84e55c5f3093837b39c34e", func := "warder/warderlaw18.AdmitSwitches", spec := "admitSwitches", inPlace := ["math/bits.Add64"], unfollowed := true, recurses := true, named := ["math/bits.divideError", "math/bits.overflowError"], apart := false, narrowed := true }
def AdmitSwitchesUptoSaid : Prop := admitSwitchesUptoRow.holds Try.pinned (OpenSpec.upto admitSwitchesSpec)

/-- 'warderlaw18.AdmitServers', WHERE WHAT IT READS IS OF BULK AT MOST 1048576: true; the input reads as it did. -/
def admitServersUptoRow : OpenClaim := { program := "ytijpjhelgggmfaa", sum := "2d814f68d96c1a5e541dd7d72933b73ddc5426e73e84e55c5f3093837b39c34e", func := "warder/warderlaw18.AdmitServers", spec := "admitServers", inPlace := ["math/bits.Add64"], unfollowed := true, recurses := true, named := ["math/bits.divideError", "math/bits.overflowError"], apart := false, narrowed := true }
def AdmitServersUptoSaid : Prop := admitServersUptoRow.holds Try.pinned (OpenSpec.upto admitServersSpec)

end Rows
end Go.Proofs.Ytijpjhelgggmfaa

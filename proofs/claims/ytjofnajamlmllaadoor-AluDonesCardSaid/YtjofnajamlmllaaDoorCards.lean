/-
  DERIVED. GIVEN WITH THE SEED: THE CARDS: each row of YtjofnajamlmllaaDoorRows.lean that lists a variable, with what it lists TIED to the program's text (the seventh form; the later family's looks); each row that meets fmt, with fmt's text TOLD by the authors' own Lean function (tested against real Go, not proved from fmt's source: count such statements apart). THE CARD IS WHAT COUNTS. Prove the row's statement (the work); the ties are given (YtjofnajamlmllaaDoorTie.lean); close each card by the builder's one call (the guide's Derived/Test/ToyasCard.lean, 'card_holds'). Laid BY PROGRAM, IN A SANDBOX (cutbox-door.mjs). By AI agents, Wed Nov 11 2026. No macro, syntax, notation, axiom, sorry.
-/
import Derived.Test.YtjofnajamlmllaaDoorRows
import GoSem.ClaimSeven
namespace Go.Proofs.YtjofnajamlmllaaDoor
namespace Rows

/-- THE TIED CARD OF 'warderlaw03.AluDones'. -/
def aluDonesCard : Claim7 := { stood := { row := aluDonesRow, standIns := [], harness := (true, "12a61791ac949244444552d654de7188575cb29a533056da1f7b28dd766461c2"), looks := true }, kinds := [], alts := [], laidByText := true, laidKinds := [.data, .data, .data, .data, .sentinel, .sentinel, .pinned], laidTests := true, laidLooks := .later }
def AluDonesCardSaid : Prop := Claim7.holds Tryd.pinned (.plain (OpenSpec.ofChange aluDonesSpec)) aluDonesCard

/-- THE TIED CARD OF 'warderlaw03.AluSums'. -/
def aluSumsCard : Claim7 := { stood := { row := aluSumsRow, standIns := [], harness := (true, "12a61791ac949244444552d654de7188575cb29a533056da1f7b28dd766461c2"), looks := true }, kinds := [], alts := [], laidByText := true, laidKinds := [.data, .data, .data, .data, .sentinel, .sentinel, .pinned], laidTests := true, laidLooks := .later }
def AluSumsCardSaid : Prop := Claim7.holds Tryd.pinned (.plain (OpenSpec.ofChange aluSumsSpec)) aluSumsCard

/-- THE TIED CARD OF 'warderlaw03.AluApart'. -/
def aluApartCard : Claim7 := { stood := { row := aluApartRow, standIns := [], harness := (true, "12a61791ac949244444552d654de7188575cb29a533056da1f7b28dd766461c2"), looks := true }, kinds := [], alts := [], laidByText := true, laidKinds := [.data, .data, .data, .data, .sentinel, .sentinel, .pinned], laidTests := true, laidLooks := .later }
def AluApartCardSaid : Prop := Claim7.holds Tryd.pinned (.plain (OpenSpec.ofChange aluApartSpec)) aluApartCard

/-- THE TIED CARD OF 'warderlaw03.AluCalls'. -/
def aluCallsCard : Claim7 := { stood := { row := aluCallsRow, standIns := [], harness := (true, "12a61791ac949244444552d654de7188575cb29a533056da1f7b28dd766461c2"), looks := true }, kinds := [], alts := [], laidByText := true, laidKinds := [.data, .data, .data, .data, .sentinel, .sentinel, .pinned], laidTests := true, laidLooks := .later }
def AluCallsCardSaid : Prop := Claim7.holds Tryd.pinned (.plain (OpenSpec.ofChange aluCallsSpec)) aluCallsCard

/-- THE SECOND FORM's CARD OF 'warderlaw03.AluDones'. -/
def aluDonesUptoCard : Claim7 := { stood := { row := aluDonesUptoRow, standIns := [], harness := (true, "12a61791ac949244444552d654de7188575cb29a533056da1f7b28dd766461c2"), looks := true }, kinds := [], alts := [], laidByText := true, laidKinds := [.data, .data, .data, .data, .sentinel, .sentinel, .pinned], laidTests := true, laidLooks := .later }
def AluDonesUptoCardSaid : Prop := Claim7.holds Tryd.pinned (.plain (OpenSpec.upto aluDonesSpec)) aluDonesUptoCard

/-- THE SECOND FORM's CARD OF 'warderlaw03.AluSums'. -/
def aluSumsUptoCard : Claim7 := { stood := { row := aluSumsUptoRow, standIns := [], harness := (true, "12a61791ac949244444552d654de7188575cb29a533056da1f7b28dd766461c2"), looks := true }, kinds := [], alts := [], laidByText := true, laidKinds := [.data, .data, .data, .data, .sentinel, .sentinel, .pinned], laidTests := true, laidLooks := .later }
def AluSumsUptoCardSaid : Prop := Claim7.holds Tryd.pinned (.plain (OpenSpec.upto aluSumsSpec)) aluSumsUptoCard

/-- THE SECOND FORM's CARD OF 'warderlaw03.AluApart'. -/
def aluApartUptoCard : Claim7 := { stood := { row := aluApartUptoRow, standIns := [], harness := (true, "12a61791ac949244444552d654de7188575cb29a533056da1f7b28dd766461c2"), looks := true }, kinds := [], alts := [], laidByText := true, laidKinds := [.data, .data, .data, .data, .sentinel, .sentinel, .pinned], laidTests := true, laidLooks := .later }
def AluApartUptoCardSaid : Prop := Claim7.holds Tryd.pinned (.plain (OpenSpec.upto aluApartSpec)) aluApartUptoCard

/-- THE SECOND FORM's CARD OF 'warderlaw03.AluCalls'. -/
def aluCallsUptoCard : Claim7 := { stood := { row := aluCallsUptoRow, standIns := [], harness := (true, "12a61791ac949244444552d654de7188575cb29a533056da1f7b28dd766461c2"), looks := true }, kinds := [], alts := [], laidByText := true, laidKinds := [.data, .data, .data, .data, .sentinel, .sentinel, .pinned], laidTests := true, laidLooks := .later }
def AluCallsUptoCardSaid : Prop := Claim7.holds Tryd.pinned (.plain (OpenSpec.upto aluCallsSpec)) aluCallsUptoCard
end Rows
end Go.Proofs.YtjofnajamlmllaaDoor

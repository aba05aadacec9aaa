/-
  DERIVED. GIVEN WITH THE SEED: THE CARDS: each row of YtknkaaleafiifaaDoorRows.lean that lists a variable, with what it lists TIED to the program's text (the seventh form; the later family's looks); each row that meets fmt, with fmt's text TOLD by the authors' own Lean function (tested against real Go, not proved from fmt's source: count such statements apart). THE CARD IS WHAT COUNTS. Prove the row's statement (the work); the ties are given (YtknkaaleafiifaaDoorTie.lean); close each card by the builder's one call (the guide's Derived/Test/ToyasCard.lean, 'card_holds'). Laid BY PROGRAM, IN A SANDBOX (cutbox-door.mjs). By AI agents, Wed Nov 11 2026. No macro, syntax, notation, axiom, sorry.
-/
import Derived.Test.YtknkaaleafiifaaDoorRows
import GoSem.ClaimSeven
namespace Go.Proofs.YtknkaaleafiifaaDoor
namespace Rows

/-- THE TIED CARD OF 'instarlaw04.CodeEncodes'. -/
def codeEncodesCard : Claim7 := { stood := { row := codeEncodesRow, standIns := [], harness := (true, "f6ac4d5136a701f2f7a3b4d41df5ceb51600734dfe44fba6fb212a0378c068cd"), looks := false }, kinds := [], alts := [], laidByText := true, laidKinds := [.data, .pinned], laidTests := true, laidLooks := .later }
def CodeEncodesCardSaid : Prop := Claim7.holds Tryd.pinned (.plain (OpenSpec.ofChange codeEncodesSpec)) codeEncodesCard

/-- THE TIED CARD OF 'instarlaw04.CodeBack'. -/
def codeBackCard : Claim7 := { stood := { row := codeBackRow, standIns := [], harness := (true, "f6ac4d5136a701f2f7a3b4d41df5ceb51600734dfe44fba6fb212a0378c068cd"), looks := false }, kinds := [], alts := [], laidByText := true, laidKinds := [.data, .pinned], laidTests := true, laidLooks := .later }
def CodeBackCardSaid : Prop := Claim7.holds Tryd.pinned (.plain (OpenSpec.ofChange codeBackSpec)) codeBackCard

/-- THE TIED CARD OF 'instarlaw04.CodeOrder'. -/
def codeOrderCard : Claim7 := { stood := { row := codeOrderRow, standIns := [], harness := (true, "f6ac4d5136a701f2f7a3b4d41df5ceb51600734dfe44fba6fb212a0378c068cd"), looks := false }, kinds := [], alts := [], laidByText := true, laidKinds := [.data, .pinned], laidTests := true, laidLooks := .later }
def CodeOrderCardSaid : Prop := Claim7.holds Tryd.pinned (.plain (OpenSpec.ofChange codeOrderSpec)) codeOrderCard

/-- THE TIED CARD OF 'instarlaw04.CodeJoins'. -/
def codeJoinsCard : Claim7 := { stood := { row := codeJoinsRow, standIns := [], harness := (true, "f6ac4d5136a701f2f7a3b4d41df5ceb51600734dfe44fba6fb212a0378c068cd"), looks := false }, kinds := [], alts := [], laidByText := true, laidKinds := [.data, .pinned], laidTests := true, laidLooks := .later }
def CodeJoinsCardSaid : Prop := Claim7.holds Tryd.pinned (.plain (OpenSpec.ofChange codeJoinsSpec)) codeJoinsCard

/-- THE SECOND FORM's CARD OF 'instarlaw04.CodeEncodes'. -/
def codeEncodesUptoCard : Claim7 := { stood := { row := codeEncodesUptoRow, standIns := [], harness := (true, "f6ac4d5136a701f2f7a3b4d41df5ceb51600734dfe44fba6fb212a0378c068cd"), looks := false }, kinds := [], alts := [], laidByText := true, laidKinds := [.data, .pinned], laidTests := true, laidLooks := .later }
def CodeEncodesUptoCardSaid : Prop := Claim7.holds Tryd.pinned (.plain (OpenSpec.upto codeEncodesSpec)) codeEncodesUptoCard

/-- THE SECOND FORM's CARD OF 'instarlaw04.CodeBack'. -/
def codeBackUptoCard : Claim7 := { stood := { row := codeBackUptoRow, standIns := [], harness := (true, "f6ac4d5136a701f2f7a3b4d41df5ceb51600734dfe44fba6fb212a0378c068cd"), looks := false }, kinds := [], alts := [], laidByText := true, laidKinds := [.data, .pinned], laidTests := true, laidLooks := .later }
def CodeBackUptoCardSaid : Prop := Claim7.holds Tryd.pinned (.plain (OpenSpec.upto codeBackSpec)) codeBackUptoCard

/-- THE SECOND FORM's CARD OF 'instarlaw04.CodeOrder'. -/
def codeOrderUptoCard : Claim7 := { stood := { row := codeOrderUptoRow, standIns := [], harness := (true, "f6ac4d5136a701f2f7a3b4d41df5ceb51600734dfe44fba6fb212a0378c068cd"), looks := false }, kinds := [], alts := [], laidByText := true, laidKinds := [.data, .pinned], laidTests := true, laidLooks := .later }
def CodeOrderUptoCardSaid : Prop := Claim7.holds Tryd.pinned (.plain (OpenSpec.upto codeOrderSpec)) codeOrderUptoCard

/-- THE SECOND FORM's CARD OF 'instarlaw04.CodeJoins'. -/
def codeJoinsUptoCard : Claim7 := { stood := { row := codeJoinsUptoRow, standIns := [], harness := (true, "f6ac4d5136a701f2f7a3b4d41df5ceb51600734dfe44fba6fb212a0378c068cd"), looks := false }, kinds := [], alts := [], laidByText := true, laidKinds := [.data, .pinned], laidTests := true, laidLooks := .later }
def CodeJoinsUptoCardSaid : Prop := Claim7.holds Tryd.pinned (.plain (OpenSpec.upto codeJoinsSpec)) codeJoinsUptoCard
end Rows
end Go.Proofs.YtknkaaleafiifaaDoor

/-
  DERIVED. GIVEN WITH THE SEED: THE CARDS: each row of YtpffmndfanknaaaDoorRows.lean that lists a variable, with what it lists TIED to the program's text (the seventh form; the later family's looks); each row that meets fmt, with fmt's text TOLD by the authors' own Lean function (tested against real Go, not proved from fmt's source: count such statements apart). THE CARD IS WHAT COUNTS. Prove the row's statement (the work); the ties are given (YtpffmndfanknaaaDoorTie.lean); close each card by the builder's one call (the guide's Derived/Test/ToyasCard.lean, 'card_holds'). Laid BY PROGRAM, IN A SANDBOX (cutbox-door.mjs). By AI agents, Wed Nov 11 2026. No macro, syntax, notation, axiom, sorry.
-/
import Derived.Test.YtpffmndfanknaaaDoorRows
import GoSem.ClaimSeven
namespace Go.Proofs.YtpffmndfanknaaaDoor
namespace Rows

/-- THE TIED CARD OF 'rookerylaw18.CodeSlots'. -/
def codeSlotsCard : Claim7 := { stood := { row := codeSlotsRow, standIns := [], harness := (true, "e6f20388d04e0a705b7f945b992a839d52111ed7218542c8dd2af57c833f0495"), looks := true }, kinds := [], alts := [], laidByText := true, laidKinds := [.data, .data, .data, .sentinel, .sentinel], laidTests := true, laidLooks := .later }
def CodeSlotsCardSaid : Prop := Claim7.holds Tryd.pinned (.plain (OpenSpec.ofChange codeSlotsSpec)) codeSlotsCard

/-- THE SECOND FORM's CARD OF 'rookerylaw18.CodeSlots'. -/
def codeSlotsUptoCard : Claim7 := { stood := { row := codeSlotsUptoRow, standIns := [], harness := (true, "e6f20388d04e0a705b7f945b992a839d52111ed7218542c8dd2af57c833f0495"), looks := true }, kinds := [], alts := [], laidByText := true, laidKinds := [.data, .data, .data, .sentinel, .sentinel], laidTests := true, laidLooks := .later }
def CodeSlotsUptoCardSaid : Prop := Claim7.holds Tryd.pinned (.plain (OpenSpec.upto codeSlotsSpec)) codeSlotsUptoCard
end Rows
end Go.Proofs.YtpffmndfanknaaaDoor

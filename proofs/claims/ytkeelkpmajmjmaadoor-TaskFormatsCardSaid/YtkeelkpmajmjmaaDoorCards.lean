/-
  DERIVED. GIVEN WITH THE SEED: THE CARDS: each row of YtkeelkpmajmjmaaDoorRows.lean that lists a variable, with what it lists TIED to the program's text (the seventh form; the later family's looks); each row that meets fmt, with fmt's text TOLD by the authors' own Lean function (tested against real Go, not proved from fmt's source: count such statements apart). THE CARD IS WHAT COUNTS. Prove the row's statement (the work); the ties are given (YtkeelkpmajmjmaaDoorTie.lean); close each card by the builder's one call (the guide's Derived/Test/ToyasCard.lean, 'card_holds'). Laid BY PROGRAM, IN A SANDBOX (cutbox-door.mjs). By AI agents, Wed Nov 11 2026. No macro, syntax, notation, axiom, sorry.
-/
import Derived.Test.YtkeelkpmajmjmaaDoorRows
import GoSem.ClaimSeven
namespace Go.Proofs.YtkeelkpmajmjmaaDoor
namespace Rows

/-- THE TIED CARD OF 'stratagemlaw05.TaskFormats'. -/
def taskFormatsCard : Claim7 := { stood := { row := taskFormatsRow, standIns := [], harness := (true, "47f1df343de18200cf528e7e9e539f673f41ee954492cbb9b75d61dfa0b82572"), looks := true }, kinds := [], alts := [], laidByText := true, laidKinds := [.data, .data, .data], laidTests := true, laidLooks := .later }
def TaskFormatsCardSaid : Prop := Claim7.holds Tryd.pinned (.plain (OpenSpec.ofChange taskFormatsSpec)) taskFormatsCard

/-- THE SECOND FORM's CARD OF 'stratagemlaw05.TaskFormats'. -/
def taskFormatsUptoCard : Claim7 := { stood := { row := taskFormatsUptoRow, standIns := [], harness := (true, "47f1df343de18200cf528e7e9e539f673f41ee954492cbb9b75d61dfa0b82572"), looks := true }, kinds := [], alts := [], laidByText := true, laidKinds := [.data, .data, .data], laidTests := true, laidLooks := .later }
def TaskFormatsUptoCardSaid : Prop := Claim7.holds Tryd.pinned (.plain (OpenSpec.upto taskFormatsSpec)) taskFormatsUptoCard
end Rows
end Go.Proofs.YtkeelkpmajmjmaaDoor

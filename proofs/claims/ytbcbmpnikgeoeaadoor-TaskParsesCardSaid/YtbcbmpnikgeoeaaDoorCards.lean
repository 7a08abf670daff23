/-
  DERIVED. GIVEN WITH THE SEED: THE CARDS: each row of YtbcbmpnikgeoeaaDoorRows.lean that lists a variable, with what it lists TIED to the program's text (the seventh form; the later family's looks); each row that meets fmt, with fmt's text TOLD by the authors' own Lean function (tested against real Go, not proved from fmt's source: count such statements apart). THE CARD IS WHAT COUNTS. Prove the row's statement (the work); the ties are given (YtbcbmpnikgeoeaaDoorTie.lean); close each card by the builder's one call (the guide's Derived/Test/ToyasCard.lean, 'card_holds'). Laid BY PROGRAM, IN A SANDBOX (cutbox-door.mjs). By AI agents, Wed Nov 11 2026. No macro, syntax, notation, axiom, sorry.
-/
import Derived.Test.YtbcbmpnikgeoeaaDoorRows
import GoSem.ClaimSeven
namespace Go.Proofs.YtbcbmpnikgeoeaaDoor
namespace Rows

/-- THE TIED CARD OF 'stratagemlaw05.TaskParses'. -/
def taskParsesCard : Claim7 := { stood := { row := taskParsesRow, standIns := [], harness := (true, "99391a7ffbd181e6475013e98ea8ee4b48d261325137832ed5859996f86a4ebf"), looks := true }, kinds := [], alts := [], laidByText := true, laidKinds := [.data, .data, .data, .data, .sentinel, .sentinel, .pinned], laidTests := true, laidLooks := .later }
def TaskParsesCardSaid : Prop := Claim7.holds Tryd.pinned (.plain (OpenSpec.ofChange taskParsesSpec)) taskParsesCard

/-- THE TIED CARD OF 'stratagemlaw05.TaskReturns'. -/
def taskReturnsCard : Claim7 := { stood := { row := taskReturnsRow, standIns := [], harness := (true, "99391a7ffbd181e6475013e98ea8ee4b48d261325137832ed5859996f86a4ebf"), looks := true }, kinds := [], alts := [], laidByText := true, laidKinds := [.data, .data, .data, .data, .sentinel, .sentinel, .pinned], laidTests := true, laidLooks := .later }
def TaskReturnsCardSaid : Prop := Claim7.holds Tryd.pinned (.plain (OpenSpec.ofChange taskReturnsSpec)) taskReturnsCard

/-- THE TIED CARD OF 'stratagemlaw05.TaskKeeps'. -/
def taskKeepsCard : Claim7 := { stood := { row := taskKeepsRow, standIns := [], harness := (true, "99391a7ffbd181e6475013e98ea8ee4b48d261325137832ed5859996f86a4ebf"), looks := true }, kinds := [], alts := [], laidByText := true, laidKinds := [.data, .data, .data, .data, .sentinel, .sentinel, .pinned], laidTests := true, laidLooks := .later }
def TaskKeepsCardSaid : Prop := Claim7.holds Tryd.pinned (.plain (OpenSpec.ofChange taskKeepsSpec)) taskKeepsCard

/-- THE SECOND FORM's CARD OF 'stratagemlaw05.TaskParses'. -/
def taskParsesUptoCard : Claim7 := { stood := { row := taskParsesUptoRow, standIns := [], harness := (true, "99391a7ffbd181e6475013e98ea8ee4b48d261325137832ed5859996f86a4ebf"), looks := true }, kinds := [], alts := [], laidByText := true, laidKinds := [.data, .data, .data, .data, .sentinel, .sentinel, .pinned], laidTests := true, laidLooks := .later }
def TaskParsesUptoCardSaid : Prop := Claim7.holds Tryd.pinned (.plain (OpenSpec.upto taskParsesSpec)) taskParsesUptoCard

/-- THE SECOND FORM's CARD OF 'stratagemlaw05.TaskReturns'. -/
def taskReturnsUptoCard : Claim7 := { stood := { row := taskReturnsUptoRow, standIns := [], harness := (true, "99391a7ffbd181e6475013e98ea8ee4b48d261325137832ed5859996f86a4ebf"), looks := true }, kinds := [], alts := [], laidByText := true, laidKinds := [.data, .data, .data, .data, .sentinel, .sentinel, .pinned], laidTests := true, laidLooks := .later }
def TaskReturnsUptoCardSaid : Prop := Claim7.holds Tryd.pinned (.plain (OpenSpec.upto taskReturnsSpec)) taskReturnsUptoCard

/-- THE SECOND FORM's CARD OF 'stratagemlaw05.TaskKeeps'. -/
def taskKeepsUptoCard : Claim7 := { stood := { row := taskKeepsUptoRow, standIns := [], harness := (true, "99391a7ffbd181e6475013e98ea8ee4b48d261325137832ed5859996f86a4ebf"), looks := true }, kinds := [], alts := [], laidByText := true, laidKinds := [.data, .data, .data, .data, .sentinel, .sentinel, .pinned], laidTests := true, laidLooks := .later }
def TaskKeepsUptoCardSaid : Prop := Claim7.holds Tryd.pinned (.plain (OpenSpec.upto taskKeepsSpec)) taskKeepsUptoCard
end Rows
end Go.Proofs.YtbcbmpnikgeoeaaDoor

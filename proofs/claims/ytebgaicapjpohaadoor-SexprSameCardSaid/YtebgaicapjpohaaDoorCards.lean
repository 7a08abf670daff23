/-
  DERIVED. GIVEN WITH THE SEED: THE CARDS: each row of YtebgaicapjpohaaDoorRows.lean that lists a variable, with what it lists TIED to the program's text (the seventh form; the later family's looks); each row that meets fmt, with fmt's text TOLD by the authors' own Lean function (tested against real Go, not proved from fmt's source: count such statements apart). THE CARD IS WHAT COUNTS. Prove the row's statement (the work); the ties are given (YtebgaicapjpohaaDoorTie.lean); close each card by the builder's one call (the guide's Derived/Test/ToyasCard.lean, 'card_holds'). Laid BY PROGRAM, IN A SANDBOX (cutbox-door.mjs). By AI agents, Wed Nov 11 2026. No macro, syntax, notation, axiom, sorry.
-/
import Derived.Test.YtebgaicapjpohaaDoorRows
import GoSem.ClaimSeven
namespace Go.Proofs.YtebgaicapjpohaaDoor
namespace Rows

/-- THE TIED CARD OF 'stratagemlaw01.SexprLimits'. -/
def sexprLimitsCard : Claim7 := { stood := { row := sexprLimitsRow, standIns := [], harness := (true, "f3d36a571cd69744d7b6a39a11064db749558e11c00b34d088ff481d7bba6e31"), looks := true }, kinds := [], alts := [], laidByText := true, laidKinds := [.data, .data, .data], laidTests := true, laidLooks := .later }
def SexprLimitsCardSaid : Prop := Claim7.holds Tryd.pinned (.plain (OpenSpec.ofChange sexprLimitsSpec)) sexprLimitsCard

/-- THE TIED CARD OF 'stratagemlaw01.SexprSame'. -/
def sexprSameCard : Claim7 := { stood := { row := sexprSameRow, standIns := [], harness := (true, "f3d36a571cd69744d7b6a39a11064db749558e11c00b34d088ff481d7bba6e31"), looks := true }, kinds := [], alts := [], laidByText := true, laidKinds := [.data, .data, .data], laidTests := true, laidLooks := .later }
def SexprSameCardSaid : Prop := Claim7.holds Tryd.pinned (.plain (OpenSpec.ofChange sexprSameSpec)) sexprSameCard

/-- THE SECOND FORM's CARD OF 'stratagemlaw01.SexprLimits'. -/
def sexprLimitsUptoCard : Claim7 := { stood := { row := sexprLimitsUptoRow, standIns := [], harness := (true, "f3d36a571cd69744d7b6a39a11064db749558e11c00b34d088ff481d7bba6e31"), looks := true }, kinds := [], alts := [], laidByText := true, laidKinds := [.data, .data, .data], laidTests := true, laidLooks := .later }
def SexprLimitsUptoCardSaid : Prop := Claim7.holds Tryd.pinned (.plain (OpenSpec.upto sexprLimitsSpec)) sexprLimitsUptoCard

/-- THE SECOND FORM's CARD OF 'stratagemlaw01.SexprSame'. -/
def sexprSameUptoCard : Claim7 := { stood := { row := sexprSameUptoRow, standIns := [], harness := (true, "f3d36a571cd69744d7b6a39a11064db749558e11c00b34d088ff481d7bba6e31"), looks := true }, kinds := [], alts := [], laidByText := true, laidKinds := [.data, .data, .data], laidTests := true, laidLooks := .later }
def SexprSameUptoCardSaid : Prop := Claim7.holds Tryd.pinned (.plain (OpenSpec.upto sexprSameSpec)) sexprSameUptoCard
end Rows
end Go.Proofs.YtebgaicapjpohaaDoor

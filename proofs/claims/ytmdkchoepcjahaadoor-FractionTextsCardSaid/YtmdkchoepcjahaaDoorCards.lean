/-
  DERIVED. GIVEN WITH THE SEED: THE CARDS: each row of YtmdkchoepcjahaaDoorRows.lean that lists a variable, with what it lists TIED to the program's text (the seventh form; the later family's looks); each row that meets fmt, with fmt's text TOLD by the authors' own Lean function (tested against real Go, not proved from fmt's source: count such statements apart). THE CARD IS WHAT COUNTS. Prove the row's statement (the work); the ties are given (YtmdkchoepcjahaaDoorTie.lean); close each card by the builder's one call (the guide's Derived/Test/ToyasCard.lean, 'card_holds'). Laid BY PROGRAM, IN A SANDBOX (cutbox-door.mjs). By AI agents, Wed Nov 11 2026. No macro, syntax, notation, axiom, sorry.
-/
import Derived.Test.YtmdkchoepcjahaaDoorRows
import GoSem.ClaimSeven
namespace Go.Proofs.YtmdkchoepcjahaaDoor
namespace Rows

/-- THE TIED CARD OF 'stratagemlaw02.FractionForms'. -/
def fractionFormsCard : Claim7 := { stood := { row := fractionFormsRow, standIns := [], harness := (true, "68d04e63276780062b1e835efd60e0a6191a8e97956f9ddc06675c7bb18ccf73"), looks := true }, kinds := [], alts := [], laidByText := true, laidKinds := [.data, .data, .data], laidTests := true, laidLooks := .later }
def FractionFormsCardSaid : Prop := Claim7.holds Tryd.pinned (.plain (OpenSpec.ofChange fractionFormsSpec)) fractionFormsCard

/-- THE TIED CARD OF 'stratagemlaw02.FractionTexts'. -/
def fractionTextsCard : Claim7 := { stood := { row := fractionTextsRow, standIns := [], harness := (true, "68d04e63276780062b1e835efd60e0a6191a8e97956f9ddc06675c7bb18ccf73"), looks := true }, kinds := [], alts := [], laidByText := true, laidKinds := [.data, .data, .data, .sentinel, .sentinel], laidTests := true, laidLooks := .later }
def FractionTextsCardSaid : Prop := Claim7.holds Tryd.pinned (.plain (OpenSpec.ofChange fractionTextsSpec)) fractionTextsCard

/-- THE SECOND FORM's CARD OF 'stratagemlaw02.FractionForms'. -/
def fractionFormsUptoCard : Claim7 := { stood := { row := fractionFormsUptoRow, standIns := [], harness := (true, "68d04e63276780062b1e835efd60e0a6191a8e97956f9ddc06675c7bb18ccf73"), looks := true }, kinds := [], alts := [], laidByText := true, laidKinds := [.data, .data, .data], laidTests := true, laidLooks := .later }
def FractionFormsUptoCardSaid : Prop := Claim7.holds Tryd.pinned (.plain (OpenSpec.upto fractionFormsSpec)) fractionFormsUptoCard

/-- THE SECOND FORM's CARD OF 'stratagemlaw02.FractionTexts'. -/
def fractionTextsUptoCard : Claim7 := { stood := { row := fractionTextsUptoRow, standIns := [], harness := (true, "68d04e63276780062b1e835efd60e0a6191a8e97956f9ddc06675c7bb18ccf73"), looks := true }, kinds := [], alts := [], laidByText := true, laidKinds := [.data, .data, .data, .sentinel, .sentinel], laidTests := true, laidLooks := .later }
def FractionTextsUptoCardSaid : Prop := Claim7.holds Tryd.pinned (.plain (OpenSpec.upto fractionTextsSpec)) fractionTextsUptoCard
end Rows
end Go.Proofs.YtmdkchoepcjahaaDoor

/-
  DERIVED. GIVEN WITH THE SEED: THE CARDS: each row of YtlkebhiaimijiaaGreatDoorRows.lean that lists a variable, with what it lists TIED to the program's text (the seventh form; the later family's looks); each row that meets fmt, with fmt's text TOLD by the authors' own Lean function (tested against real Go, not proved from fmt's source: count such statements apart). THE CARD IS WHAT COUNTS. Prove the row's statement (the work); the ties are given (YtlkebhiaimijiaaGreatDoorTie.lean); close each card by the builder's one call (the guide's Derived/Test/ToyasCard.lean, 'card_holds'). Laid BY PROGRAM, IN A SANDBOX (cutbox-door.mjs). By AI agents, Wed Nov 11 2026. No macro, syntax, notation, axiom, sorry.
-/
import Derived.Test.YtlkebhiaimijiaaGreatDoorRows
import GoSem.ClaimSeven
namespace Go.Proofs.YtlkebhiaimijiaaGreatDoor
namespace Rows

/-- THE TIED CARD OF 'stratagemtop.WholeMutexes'. -/
def wholeMutexesCard : Claim7 := { stood := { row := wholeMutexesRow, standIns := [], harness := (true, "f5c1070769114c6cf0abed29bc81e809d0af3bc96a84f07742ed6d0914169327"), looks := true }, kinds := [], alts := [], laidByText := true, laidKinds := [.data, .data, .data], laidTests := true, laidLooks := .later }
def WholeMutexesCardSaid : Prop := Claim7.holds Tryz.pinned (.plain (OpenSpec.ofChange wholeMutexesSpec)) wholeMutexesCard

/-- THE TIED CARD OF 'stratagemtop.WholeTampered'. -/
def wholeTamperedCard : Claim7 := { stood := { row := wholeTamperedRow, standIns := [], harness := (true, "f5c1070769114c6cf0abed29bc81e809d0af3bc96a84f07742ed6d0914169327"), looks := true }, kinds := [], alts := [], laidByText := true, laidKinds := [.data, .data, .data, .data, .pinned], laidTests := true, laidLooks := .later }
def WholeTamperedCardSaid : Prop := Claim7.holds Tryz.pinned (.plain (OpenSpec.ofChange wholeTamperedSpec)) wholeTamperedCard

/-- THE SECOND FORM's CARD OF 'stratagemtop.WholeMutexes'. -/
def wholeMutexesUptoCard : Claim7 := { stood := { row := wholeMutexesUptoRow, standIns := [], harness := (true, "f5c1070769114c6cf0abed29bc81e809d0af3bc96a84f07742ed6d0914169327"), looks := true }, kinds := [], alts := [], laidByText := true, laidKinds := [.data, .data, .data], laidTests := true, laidLooks := .later }
def WholeMutexesUptoCardSaid : Prop := Claim7.holds Tryz.pinned (.plain (OpenSpec.upto wholeMutexesSpec)) wholeMutexesUptoCard

/-- THE SECOND FORM's CARD OF 'stratagemtop.WholeTampered'. -/
def wholeTamperedUptoCard : Claim7 := { stood := { row := wholeTamperedUptoRow, standIns := [], harness := (true, "f5c1070769114c6cf0abed29bc81e809d0af3bc96a84f07742ed6d0914169327"), looks := true }, kinds := [], alts := [], laidByText := true, laidKinds := [.data, .data, .data, .data, .pinned], laidTests := true, laidLooks := .later }
def WholeTamperedUptoCardSaid : Prop := Claim7.holds Tryz.pinned (.plain (OpenSpec.upto wholeTamperedSpec)) wholeTamperedUptoCard
end Rows
end Go.Proofs.YtlkebhiaimijiaaGreatDoor

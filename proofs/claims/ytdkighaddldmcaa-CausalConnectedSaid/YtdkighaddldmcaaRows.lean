/-
  No cell of these rows narrows 'for every input' (looked for: loops, veiled, ifaces, maps, wideKeys, modest, calm, conditions, laid).
  DERIVED. THE GIVEN ROWS OF THIS SEAT. 6 by the template 'for every input the law returns true; each argument reads behind the call as it read before'; 0 by the template 'total and deterministic' (their statements: YtdkighaddldmcaaTotals.lean).
  GIVEN WITH THE SEED: the statements are not yours to turn. If you find one false, say at which input.
  Laid BY PROGRAM, IN A SANDBOX (cutbox-rows.mjs): the forced cells as the released guide's own fill.sh prints them over the translation 74c27bd01002c667… (all of the seat's roots in one cut). By AI agents, Wed Nov 11 2026. No macro, syntax, notation, axiom, sorry.
-/
import Derived.Test.YtdkighaddldmcaaChecked
import GoSem.Claim
import GoSem.ClaimJoined
import GoSem.ClaimMapViews
import Derived.JoinedTies
import Derived.KernelRfl
namespace Go.Proofs.Ytdkighaddldmcaa
/- THE CELL 'sum', in the pinned program and in every row, IS THE sha256 OF THE DUMP (.gsa) THAT YtdkighaddldmcaaProg.lean LOADS. Nothing in Lean hashes anything: it is a label: what it is worth is what the hold of that sum in a sandbox is worth. -/
noncomputable def Try.pinned : Pinned := { name := "ytdkighaddldmcaa", sum := "74c27bd01002c6671d545017f83f9b6b48abc8bf3c044c977eabc166b1075817", checked := Try.checked }
namespace Rows
def none {H : Type} : Left H := { results := [], args := [] }

/-- 'stratagemlaw39.CausalRelevant': WHATEVER THE INPUT: true; the input reads as it did. -/
def causalRelevantSpec : ChangeSpec := { name := "causalRelevant", fn := fun _ => fun
  | [d1, d2] => { results := [.lit (.bool true)], args := [d1, d2] }
  | _ => none }
def causalRelevantRow : OpenClaim := { program := "ytdkighaddldmcaa", sum := "74c27bd01002c6671d545017f83f9b6b48abc8bf3c044c977eabc166b1075817", func := "stratagem/stratagemlaw39.CausalRelevant", spec := "causalRelevant", unfollowed := true, recurses := true, apart := false }
def CausalRelevantSaid : Prop := causalRelevantRow.holds Try.pinned (OpenSpec.ofChange causalRelevantSpec)

/-- ITS FALSE NEIGHBOUR: 'it returns false'. Refute it at one input. -/
def causalRelevantWrong : ChangeSpec := { name := "causalRelevant", fn := fun _ => fun
  | [d1, d2] => { results := [.lit (.bool false)], args := [d1, d2] }
  | _ => none }
def CausalRelevantWrongFalsely : Prop := causalRelevantRow.holds Try.pinned (OpenSpec.ofChange causalRelevantWrong)

/-- 'stratagemlaw39.CausalConnected': WHATEVER THE INPUT: true; the input reads as it did. -/
def causalConnectedSpec : ChangeSpec := { name := "causalConnected", fn := fun _ => fun
  | [d1, d2, d3] => { results := [.lit (.bool true)], args := [d1, d2, d3] }
  | _ => none }
def causalConnectedRow : OpenClaim := { program := "ytdkighaddldmcaa", sum := "74c27bd01002c6671d545017f83f9b6b48abc8bf3c044c977eabc166b1075817", func := "stratagem/stratagemlaw39.CausalConnected", spec := "causalConnected", unfollowed := true, recurses := true, apart := false }
def CausalConnectedSaid : Prop := causalConnectedRow.holds Try.pinned (OpenSpec.ofChange causalConnectedSpec)

/-- ITS FALSE NEIGHBOUR: 'it returns false'. Refute it at one input. -/
def causalConnectedWrong : ChangeSpec := { name := "causalConnected", fn := fun _ => fun
  | [d1, d2, d3] => { results := [.lit (.bool false)], args := [d1, d2, d3] }
  | _ => none }
def CausalConnectedWrongFalsely : Prop := causalConnectedRow.holds Try.pinned (OpenSpec.ofChange causalConnectedWrong)

/-- 'stratagemlaw39.CausalRestricts': WHATEVER THE INPUT: true; the input reads as it did. -/
def causalRestrictsSpec : ChangeSpec := { name := "causalRestricts", fn := fun _ => fun
  | [d] => { results := [.lit (.bool true)], args := [d] }
  | _ => none }
def causalRestrictsRow : OpenClaim := { program := "ytdkighaddldmcaa", sum := "74c27bd01002c6671d545017f83f9b6b48abc8bf3c044c977eabc166b1075817", func := "stratagem/stratagemlaw39.CausalRestricts", spec := "causalRestricts", unfollowed := true, recurses := true, apart := false }
def CausalRestrictsSaid : Prop := causalRestrictsRow.holds Try.pinned (OpenSpec.ofChange causalRestrictsSpec)

/-- ITS FALSE NEIGHBOUR: 'it returns false'. Refute it at one input. -/
def causalRestrictsWrong : ChangeSpec := { name := "causalRestricts", fn := fun _ => fun
  | [d] => { results := [.lit (.bool false)], args := [d] }
  | _ => none }
def CausalRestrictsWrongFalsely : Prop := causalRestrictsRow.holds Try.pinned (OpenSpec.ofChange causalRestrictsWrong)

/-- 'stratagemlaw39.CausalCosts': WHATEVER THE INPUT: true; the input reads as it did. -/
def causalCostsSpec : ChangeSpec := { name := "causalCosts", fn := fun _ => fun
  | [d] => { results := [.lit (.bool true)], args := [d] }
  | _ => none }
def causalCostsRow : OpenClaim := { program := "ytdkighaddldmcaa", sum := "74c27bd01002c6671d545017f83f9b6b48abc8bf3c044c977eabc166b1075817", func := "stratagem/stratagemlaw39.CausalCosts", spec := "causalCosts", unfollowed := true, recurses := true, apart := false }
def CausalCostsSaid : Prop := causalCostsRow.holds Try.pinned (OpenSpec.ofChange causalCostsSpec)

/-- ITS FALSE NEIGHBOUR: 'it returns false'. Refute it at one input. -/
def causalCostsWrong : ChangeSpec := { name := "causalCosts", fn := fun _ => fun
  | [d] => { results := [.lit (.bool false)], args := [d] }
  | _ => none }
def CausalCostsWrongFalsely : Prop := causalCostsRow.holds Try.pinned (OpenSpec.ofChange causalCostsWrong)

/-- 'stratagemlaw39.CausalPlans': WHATEVER THE INPUT: true; the input reads as it did. -/
def causalPlansSpec : ChangeSpec := { name := "causalPlans", fn := fun _ => fun
  | [d1, d2] => { results := [.lit (.bool true)], args := [d1, d2] }
  | _ => none }
def causalPlansRow : OpenClaim := { program := "ytdkighaddldmcaa", sum := "74c27bd01002c6671d545017f83f9b6b48abc8bf3c044c977eabc166b1075817", func := "stratagem/stratagemlaw39.CausalPlans", spec := "causalPlans", unfollowed := true, recurses := true, apart := false }
def CausalPlansSaid : Prop := causalPlansRow.holds Try.pinned (OpenSpec.ofChange causalPlansSpec)

/-- ITS FALSE NEIGHBOUR: 'it returns false'. Refute it at one input. -/
def causalPlansWrong : ChangeSpec := { name := "causalPlans", fn := fun _ => fun
  | [d1, d2] => { results := [.lit (.bool false)], args := [d1, d2] }
  | _ => none }
def CausalPlansWrongFalsely : Prop := causalPlansRow.holds Try.pinned (OpenSpec.ofChange causalPlansWrong)

/-- 'stratagemlaw39.CausalErrors': WHATEVER THE INPUT: true; the input reads as it did. -/
def causalErrorsSpec : ChangeSpec := { name := "causalErrors", fn := fun _ => fun
  | [d1, d2] => { results := [.lit (.bool true)], args := [d1, d2] }
  | _ => none }
def causalErrorsRow : OpenClaim := { program := "ytdkighaddldmcaa", sum := "74c27bd01002c6671d545017f83f9b6b48abc8bf3c044c977eabc166b1075817", func := "stratagem/stratagemlaw39.CausalErrors", spec := "causalErrors", unfollowed := true, recurses := true, apart := false }
def CausalErrorsSaid : Prop := causalErrorsRow.holds Try.pinned (OpenSpec.ofChange causalErrorsSpec)

/-- ITS FALSE NEIGHBOUR: 'it returns false'. Refute it at one input. -/
def causalErrorsWrong : ChangeSpec := { name := "causalErrors", fn := fun _ => fun
  | [d1, d2] => { results := [.lit (.bool false)], args := [d1, d2] }
  | _ => none }
def CausalErrorsWrongFalsely : Prop := causalErrorsRow.holds Try.pinned (OpenSpec.ofChange causalErrorsWrong)

/- THE SECOND FORM. 'bulk': how many values and letters a reading holds, each counted each time it is reached (what is shared counts as often as it is met; a slice's spare places count too). A statement '..UptoSaid' is the law's where the arguments, and the package variables that the reading takes, are together of bulk at most 1048576: NARROWER than '..Said'. Prove '..Said' where nothing that the law and all that it calls make is longer than what came in: it says more and counts as full. Else prove '..UptoSaid'. A law counts once. -/
mutual
def uptoBulk {H : Type} : DataW H → Nat
  | .lit (.string bytes) => bytes.length + 1
  | .lit _ => 1
  | .nil => 1
  | .ptr d => uptoBulk d + 1
  | .slice elems spare => uptoBulkAll elems + uptoBulkAll spare + 1
  | .agg parts => uptoBulkAll parts + 1
  | .iface _ d => uptoBulk d + 1
  | .map entries => uptoBulkEntries entries + 1
  | .held _ => 1
def uptoBulkAll {H : Type} : List (DataW H) → Nat
  | [] => 0
  | d :: r => uptoBulk d + uptoBulkAll r
def uptoBulkEntries {H : Type} : List (Lit × DataW H) → Nat
  | [] => 0
  | x :: r => uptoBulkEntry x + uptoBulkEntries r
def uptoBulkEntry {H : Type} : Lit × DataW H → Nat
  | (.string bytes, d) => bytes.length + uptoBulk d + 1
  | (_, d) => uptoBulk d + 1
 end
def uptoSmall : (H : Type) → List (DataW H) → Bool := fun _ ds => decide (uptoBulkAll ds ≤ 1048576)
def OpenSpec.upto (s : _root_.Go.ChangeSpec) : _root_.Go.OpenSpec := { _root_.Go.OpenSpec.ofChange s with cond := some uptoSmall }

/-- 'stratagemlaw39.CausalRelevant', WHERE WHAT IT READS IS OF BULK AT MOST 1048576: true; the input reads as it did. -/
def causalRelevantUptoRow : OpenClaim := { program := "ytdkighaddldmcaa", sum := "74c27bd01002c6671d545017f83f9b6b48abc8bf3c044c977eabc166b1075817", func := "stratagem/stratagemlaw39.CausalRelevant", spec := "causalRelevant", unfollowed := true, recurses := true, apart := false, narrowed := true }
def CausalRelevantUptoSaid : Prop := causalRelevantUptoRow.holds Try.pinned (OpenSpec.upto causalRelevantSpec)

/-- 'stratagemlaw39.CausalConnected', WHERE WHAT IT READS IS OF BULK AT MOST 1048576: true; the input reads as it did. -/
def causalConnectedUptoRow : OpenClaim := { program := "ytdkighaddldmcaa", sum := "74c27bd01002c6671d545017f83f9b6b48abc8bf3c044c977eabc166b1075817", func := "stratagem/stratagemlaw39.CausalConnected", spec := "causalConnected", unfollowed := true, recurses := true, apart := false, narrowed := true }
def CausalConnectedUptoSaid : Prop := causalConnectedUptoRow.holds Try.pinned (OpenSpec.upto causalConnectedSpec)

/-- 'stratagemlaw39.CausalRestricts', WHERE WHAT IT READS IS OF BULK AT MOST 1048576: true; the input reads as it did. -/
def causalRestrictsUptoRow : OpenClaim := { program := "ytdkighaddldmcaa", sum := "74c27bd01002c6671d545017f83f9b6b48abc8bf3c044c977eabc166b1075817", func := "stratagem/stratagemlaw39.CausalRestricts", spec := "causalRestricts", unfollowed := true, recurses := true, apart := false, narrowed := true }
def CausalRestrictsUptoSaid : Prop := causalRestrictsUptoRow.holds Try.pinned (OpenSpec.upto causalRestrictsSpec)

/-- 'stratagemlaw39.CausalCosts', WHERE WHAT IT READS IS OF BULK AT MOST 1048576: true; the input reads as it did. -/
def causalCostsUptoRow : OpenClaim := { program := "ytdkighaddldmcaa", sum := "74c27bd01002c6671d545017f83f9b6b48abc8bf3c044c977eabc166b1075817", func := "stratagem/stratagemlaw39.CausalCosts", spec := "causalCosts", unfollowed := true, recurses := true, apart := false, narrowed := true }
def CausalCostsUptoSaid : Prop := causalCostsUptoRow.holds Try.pinned (OpenSpec.upto causalCostsSpec)

/-- 'stratagemlaw39.CausalPlans', WHERE WHAT IT READS IS OF BULK AT MOST 1048576: true; the input reads as it did. -/
def causalPlansUptoRow : OpenClaim := { program := "ytdkighaddldmcaa", sum := "74c27bd01002c6671d545017f83f9b6b48abc8bf3c044c977eabc166b1075817", func := "stratagem/stratagemlaw39.CausalPlans", spec := "causalPlans", unfollowed := true, recurses := true, apart := false, narrowed := true }
def CausalPlansUptoSaid : Prop := causalPlansUptoRow.holds Try.pinned (OpenSpec.upto causalPlansSpec)

/-- 'stratagemlaw39.CausalErrors', WHERE WHAT IT READS IS OF BULK AT MOST 1048576: true; the input reads as it did. -/
def causalErrorsUptoRow : OpenClaim := { program := "ytdkighaddldmcaa", sum := "74c27bd01002c6671d545017f83f9b6b48abc8bf3c044c977eabc166b1075817", func := "stratagem/stratagemlaw39.CausalErrors", spec := "causalErrors", unfollowed := true, recurses := true, apart := false, narrowed := true }
def CausalErrorsUptoSaid : Prop := causalErrorsUptoRow.holds Try.pinned (OpenSpec.upto causalErrorsSpec)

end Rows
end Go.Proofs.Ytdkighaddldmcaa

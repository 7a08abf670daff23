/-
  No cell of these rows narrows 'for every input' (looked for: loops, veiled, ifaces, maps, wideKeys, modest, calm, conditions, laid).
  DERIVED. THE GIVEN ROWS OF THIS SEAT. 9 by the template 'for every input the law returns true; each argument reads behind the call as it read before'; 0 by the template 'total and deterministic' (their statements: YtenmeiplglbafaaTotals.lean).
  GIVEN WITH THE SEED: the statements are not yours to turn. If you find one false, say at which input.
  Laid BY PROGRAM, IN A SANDBOX (cutbox-rows.mjs): the forced cells as the released guide's own fill.sh prints them over the translation 50d90aa9091971c4… (all of the seat's roots in one cut). By AI agents, Wed Nov 11 2026. No macro, syntax, notation, axiom, sorry.
-/
import Derived.Test.YtenmeiplglbafaaChecked
import GoSem.Claim
import GoSem.ClaimJoined
import GoSem.ClaimMapViews
import Derived.JoinedTies
import Derived.KernelRfl
namespace Go.Proofs.Ytenmeiplglbafaa
/- THE CELL 'sum', in the pinned program and in every row, IS THE sha256 OF THE DUMP (.gsa) THAT YtenmeiplglbafaaProg.lean LOADS. Nothing in Lean hashes anything: it is a label: what it is worth is what the hold of that sum in a sandbox is worth. -/
noncomputable def Try.pinned : Pinned := { name := "ytenmeiplglbafaa", sum := "50d90aa9091971c46533e8175404f3701281625832bd55442770cc3c49bdfb7e", checked := Try.checked }
namespace Rows
def none {H : Type} : Left H := { results := [], args := [] }

/-- 'stratagemlaw36.LandmarkFacts': WHATEVER THE INPUT: true; the input reads as it did. -/
def landmarkFactsSpec : ChangeSpec := { name := "landmarkFacts", fn := fun _ => fun
  | [d1, d2] => { results := [.lit (.bool true)], args := [d1, d2] }
  | _ => none }
def landmarkFactsRow : OpenClaim := { program := "ytenmeiplglbafaa", sum := "50d90aa9091971c46533e8175404f3701281625832bd55442770cc3c49bdfb7e", func := "stratagem/stratagemlaw36.LandmarkFacts", spec := "landmarkFacts", unfollowed := true, recurses := true, apart := false }
def LandmarkFactsSaid : Prop := landmarkFactsRow.holds Try.pinned (OpenSpec.ofChange landmarkFactsSpec)

/-- ITS FALSE NEIGHBOUR: 'it returns false'. Refute it at one input. -/
def landmarkFactsWrong : ChangeSpec := { name := "landmarkFacts", fn := fun _ => fun
  | [d1, d2] => { results := [.lit (.bool false)], args := [d1, d2] }
  | _ => none }
def LandmarkFactsWrongFalsely : Prop := landmarkFactsRow.holds Try.pinned (OpenSpec.ofChange landmarkFactsWrong)

/-- 'stratagemlaw36.LandmarkPlans': WHATEVER THE INPUT: true; the input reads as it did. -/
def landmarkPlansSpec : ChangeSpec := { name := "landmarkPlans", fn := fun _ => fun
  | [d1, d2] => { results := [.lit (.bool true)], args := [d1, d2] }
  | _ => none }
def landmarkPlansRow : OpenClaim := { program := "ytenmeiplglbafaa", sum := "50d90aa9091971c46533e8175404f3701281625832bd55442770cc3c49bdfb7e", func := "stratagem/stratagemlaw36.LandmarkPlans", spec := "landmarkPlans", unfollowed := true, recurses := true, apart := false }
def LandmarkPlansSaid : Prop := landmarkPlansRow.holds Try.pinned (OpenSpec.ofChange landmarkPlansSpec)

/-- ITS FALSE NEIGHBOUR: 'it returns false'. Refute it at one input. -/
def landmarkPlansWrong : ChangeSpec := { name := "landmarkPlans", fn := fun _ => fun
  | [d1, d2] => { results := [.lit (.bool false)], args := [d1, d2] }
  | _ => none }
def LandmarkPlansWrongFalsely : Prop := landmarkPlansRow.holds Try.pinned (OpenSpec.ofChange landmarkPlansWrong)

/-- 'stratagemlaw36.LandmarkBefore': WHATEVER THE INPUT: true; the input reads as it did. -/
def landmarkBeforeSpec : ChangeSpec := { name := "landmarkBefore", fn := fun _ => fun
  | [d1, d2, d3] => { results := [.lit (.bool true)], args := [d1, d2, d3] }
  | _ => none }
def landmarkBeforeRow : OpenClaim := { program := "ytenmeiplglbafaa", sum := "50d90aa9091971c46533e8175404f3701281625832bd55442770cc3c49bdfb7e", func := "stratagem/stratagemlaw36.LandmarkBefore", spec := "landmarkBefore", unfollowed := true, recurses := true, apart := false }
def LandmarkBeforeSaid : Prop := landmarkBeforeRow.holds Try.pinned (OpenSpec.ofChange landmarkBeforeSpec)

/-- ITS FALSE NEIGHBOUR: 'it returns false'. Refute it at one input. -/
def landmarkBeforeWrong : ChangeSpec := { name := "landmarkBefore", fn := fun _ => fun
  | [d1, d2, d3] => { results := [.lit (.bool false)], args := [d1, d2, d3] }
  | _ => none }
def LandmarkBeforeWrongFalsely : Prop := landmarkBeforeRow.holds Try.pinned (OpenSpec.ofChange landmarkBeforeWrong)

/-- 'stratagemlaw39.CausalCosts': WHATEVER THE INPUT: true; the input reads as it did. -/
def causalCostsSpec : ChangeSpec := { name := "causalCosts", fn := fun _ => fun
  | [d] => { results := [.lit (.bool true)], args := [d] }
  | _ => none }
def causalCostsRow : OpenClaim := { program := "ytenmeiplglbafaa", sum := "50d90aa9091971c46533e8175404f3701281625832bd55442770cc3c49bdfb7e", func := "stratagem/stratagemlaw39.CausalCosts", spec := "causalCosts", unfollowed := true, recurses := true, apart := false }
def CausalCostsSaid : Prop := causalCostsRow.holds Try.pinned (OpenSpec.ofChange causalCostsSpec)

/-- ITS FALSE NEIGHBOUR: 'it returns false'. Refute it at one input. -/
def causalCostsWrong : ChangeSpec := { name := "causalCosts", fn := fun _ => fun
  | [d] => { results := [.lit (.bool false)], args := [d] }
  | _ => none }
def CausalCostsWrongFalsely : Prop := causalCostsRow.holds Try.pinned (OpenSpec.ofChange causalCostsWrong)

/-- 'stratagemlaw36.LandmarkOrders': WHATEVER THE INPUT: true; the input reads as it did. -/
def landmarkOrdersSpec : ChangeSpec := { name := "landmarkOrders", fn := fun _ => fun
  | [d1, d2] => { results := [.lit (.bool true)], args := [d1, d2] }
  | _ => none }
def landmarkOrdersRow : OpenClaim := { program := "ytenmeiplglbafaa", sum := "50d90aa9091971c46533e8175404f3701281625832bd55442770cc3c49bdfb7e", func := "stratagem/stratagemlaw36.LandmarkOrders", spec := "landmarkOrders", unfollowed := true, recurses := true, apart := false }
def LandmarkOrdersSaid : Prop := landmarkOrdersRow.holds Try.pinned (OpenSpec.ofChange landmarkOrdersSpec)

/-- ITS FALSE NEIGHBOUR: 'it returns false'. Refute it at one input. -/
def landmarkOrdersWrong : ChangeSpec := { name := "landmarkOrders", fn := fun _ => fun
  | [d1, d2] => { results := [.lit (.bool false)], args := [d1, d2] }
  | _ => none }
def LandmarkOrdersWrongFalsely : Prop := landmarkOrdersRow.holds Try.pinned (OpenSpec.ofChange landmarkOrdersWrong)

/-- 'stratagemlaw36.LandmarkAchievers': WHATEVER THE INPUT: true; the input reads as it did. -/
def landmarkAchieversSpec : ChangeSpec := { name := "landmarkAchievers", fn := fun _ => fun
  | [d1, d2, d3] => { results := [.lit (.bool true)], args := [d1, d2, d3] }
  | _ => none }
def landmarkAchieversRow : OpenClaim := { program := "ytenmeiplglbafaa", sum := "50d90aa9091971c46533e8175404f3701281625832bd55442770cc3c49bdfb7e", func := "stratagem/stratagemlaw36.LandmarkAchievers", spec := "landmarkAchievers", unfollowed := true, recurses := true, apart := false }
def LandmarkAchieversSaid : Prop := landmarkAchieversRow.holds Try.pinned (OpenSpec.ofChange landmarkAchieversSpec)

/-- ITS FALSE NEIGHBOUR: 'it returns false'. Refute it at one input. -/
def landmarkAchieversWrong : ChangeSpec := { name := "landmarkAchievers", fn := fun _ => fun
  | [d1, d2, d3] => { results := [.lit (.bool false)], args := [d1, d2, d3] }
  | _ => none }
def LandmarkAchieversWrongFalsely : Prop := landmarkAchieversRow.holds Try.pinned (OpenSpec.ofChange landmarkAchieversWrong)

/-- 'stratagemlaw36.LandmarkCuts': WHATEVER THE INPUT: true; the input reads as it did. -/
def landmarkCutsSpec : ChangeSpec := { name := "landmarkCuts", fn := fun _ => fun
  | [d1, d2] => { results := [.lit (.bool true)], args := [d1, d2] }
  | _ => none }
def landmarkCutsRow : OpenClaim := { program := "ytenmeiplglbafaa", sum := "50d90aa9091971c46533e8175404f3701281625832bd55442770cc3c49bdfb7e", func := "stratagem/stratagemlaw36.LandmarkCuts", spec := "landmarkCuts", unfollowed := true, recurses := true, apart := false }
def LandmarkCutsSaid : Prop := landmarkCutsRow.holds Try.pinned (OpenSpec.ofChange landmarkCutsSpec)

/-- ITS FALSE NEIGHBOUR: 'it returns false'. Refute it at one input. -/
def landmarkCutsWrong : ChangeSpec := { name := "landmarkCuts", fn := fun _ => fun
  | [d1, d2] => { results := [.lit (.bool false)], args := [d1, d2] }
  | _ => none }
def LandmarkCutsWrongFalsely : Prop := landmarkCutsRow.holds Try.pinned (OpenSpec.ofChange landmarkCutsWrong)

/-- 'stratagemlaw36.LandmarkActions': WHATEVER THE INPUT: true; the input reads as it did. -/
def landmarkActionsSpec : ChangeSpec := { name := "landmarkActions", fn := fun _ => fun
  | [d1, d2] => { results := [.lit (.bool true)], args := [d1, d2] }
  | _ => none }
def landmarkActionsRow : OpenClaim := { program := "ytenmeiplglbafaa", sum := "50d90aa9091971c46533e8175404f3701281625832bd55442770cc3c49bdfb7e", func := "stratagem/stratagemlaw36.LandmarkActions", spec := "landmarkActions", unfollowed := true, recurses := true, apart := false }
def LandmarkActionsSaid : Prop := landmarkActionsRow.holds Try.pinned (OpenSpec.ofChange landmarkActionsSpec)

/-- ITS FALSE NEIGHBOUR: 'it returns false'. Refute it at one input. -/
def landmarkActionsWrong : ChangeSpec := { name := "landmarkActions", fn := fun _ => fun
  | [d1, d2] => { results := [.lit (.bool false)], args := [d1, d2] }
  | _ => none }
def LandmarkActionsWrongFalsely : Prop := landmarkActionsRow.holds Try.pinned (OpenSpec.ofChange landmarkActionsWrong)

/-- 'stratagemlaw36.LandmarkGoals': WHATEVER THE INPUT: true; the input reads as it did. -/
def landmarkGoalsSpec : ChangeSpec := { name := "landmarkGoals", fn := fun _ => fun
  | [d1, d2] => { results := [.lit (.bool true)], args := [d1, d2] }
  | _ => none }
def landmarkGoalsRow : OpenClaim := { program := "ytenmeiplglbafaa", sum := "50d90aa9091971c46533e8175404f3701281625832bd55442770cc3c49bdfb7e", func := "stratagem/stratagemlaw36.LandmarkGoals", spec := "landmarkGoals", unfollowed := true, recurses := true, apart := false }
def LandmarkGoalsSaid : Prop := landmarkGoalsRow.holds Try.pinned (OpenSpec.ofChange landmarkGoalsSpec)

/-- ITS FALSE NEIGHBOUR: 'it returns false'. Refute it at one input. -/
def landmarkGoalsWrong : ChangeSpec := { name := "landmarkGoals", fn := fun _ => fun
  | [d1, d2] => { results := [.lit (.bool false)], args := [d1, d2] }
  | _ => none }
def LandmarkGoalsWrongFalsely : Prop := landmarkGoalsRow.holds Try.pinned (OpenSpec.ofChange landmarkGoalsWrong)

/- THE SECOND FORM. 'bulk': how many values and letters a reading holds, each counted each time it is reached (what is shared counts as often as it is met; a slice's spare places count too). A statement '..UptoSaid' is the law's where the arguments, and the package variables that the reading takes, are together of bulk at most 1048576: NARROWER than '..Said'. Prove '..Said' where nothing that the law and all that it calls make is longer than what came in: it says more and counts as full. Else prove '..UptoSaid'. A law counts once. -/
mutual
def uptoBulk {H : Type} : DataW H → Nat
  | .lit (.string bytes) => bytes.length + 1
  | .lit _ => 1
  | .nil => 1
  | .ptr d => uptoBulk d + 1
  | .slice elems spare => uptoBulkAll elems + uptoBulkAll spare + 1
  | .agg parts => uptoBulkAll parts + 1
  | .iface _ d => uptoBulk d + 1
  | .map entries => uptoBulkEntries entries + 1
  | .held _ => 1
def uptoBulkAll {H : Type} : List (DataW H) → Nat
  | [] => 0
  | d :: r => uptoBulk d + uptoBulkAll r
def uptoBulkEntries {H : Type} : List (Lit × DataW H) → Nat
  | [] => 0
  | x :: r => uptoBulkEntry x + uptoBulkEntries r
def uptoBulkEntry {H : Type} : Lit × DataW H → Nat
  | (.string bytes, d) => bytes.length + uptoBulk d + 1
  | (_, d) => uptoBulk d + 1
 end
def uptoSmall : (H : Type) → List (DataW H) → Bool := fun _ ds => decide (uptoBulkAll ds ≤ 1048576)
def OpenSpec.upto (s : _root_.Go.ChangeSpec) : _root_.Go.OpenSpec := { _root_.Go.OpenSpec.ofChange s with cond := some uptoSmall }

/-- 'stratagemlaw36.LandmarkFacts', WHERE WHAT IT READS IS OF BULK AT MOST 1048576: true; the input reads as it did. -/
def landmarkFactsUptoRow : OpenClaim := { program := "ytenmeiplglbafaa", sum := "50d90aa9091971c46533e8175404f3701281625832bd55442770cc3c49bdfb7e", func := "stratagem/stratagemlaw36.LandmarkFacts", spec := "landmarkFacts", unfollowed := true, recurses := true, apart := false, narrowed := true }
def LandmarkFactsUptoSaid : Prop := landmarkFactsUptoRow.holds Try.pinned (OpenSpec.upto landmarkFactsSpec)

/-- 'stratagemlaw36.LandmarkPlans', WHERE WHAT IT READS IS OF BULK AT MOST 1048576: true; the input reads as it did. -/
def landmarkPlansUptoRow : OpenClaim := { program := "ytenmeiplglbafaa", sum := "50d90aa9091971c46533e8175404f3701281625832bd55442770cc3c49bdfb7e", func := "stratagem/stratagemlaw36.LandmarkPlans", spec := "landmarkPlans", unfollowed := true, recurses := true, apart := false, narrowed := true }
def LandmarkPlansUptoSaid : Prop := landmarkPlansUptoRow.holds Try.pinned (OpenSpec.upto landmarkPlansSpec)

/-- 'stratagemlaw36.LandmarkBefore', WHERE WHAT IT READS IS OF BULK AT MOST 1048576: true; the input reads as it did. -/
def landmarkBeforeUptoRow : OpenClaim := { program := "ytenmeiplglbafaa", sum := "50d90aa9091971c46533e8175404f3701281625832bd55442770cc3c49bdfb7e", func := "stratagem/stratagemlaw36.LandmarkBefore", spec := "landmarkBefore", unfollowed := true, recurses := true, apart := false, narrowed := true }
def LandmarkBeforeUptoSaid : Prop := landmarkBeforeUptoRow.holds Try.pinned (OpenSpec.upto landmarkBeforeSpec)

/-- 'stratagemlaw39.CausalCosts', WHERE WHAT IT READS IS OF BULK AT MOST 1048576: true; the input reads as it did. -/
def causalCostsUptoRow : OpenClaim := { program := "ytenmeiplglbafaa", sum := "50d90aa9091971c46533e8175404f3701281625832bd55442770cc3c49bdfb7e", func := "stratagem/stratagemlaw39.CausalCosts", spec := "causalCosts", unfollowed := true, recurses := true, apart := false, narrowed := true }
def CausalCostsUptoSaid : Prop := causalCostsUptoRow.holds Try.pinned (OpenSpec.upto causalCostsSpec)

/-- 'stratagemlaw36.LandmarkOrders', WHERE WHAT IT READS IS OF BULK AT MOST 1048576: true; the input reads as it did. -/
def landmarkOrdersUptoRow : OpenClaim := { program := "ytenmeiplglbafaa", sum := "50d90aa9091971c46533e8175404f3701281625832bd55442770cc3c49bdfb7e", func := "stratagem/stratagemlaw36.LandmarkOrders", spec := "landmarkOrders", unfollowed := true, recurses := true, apart := false, narrowed := true }
def LandmarkOrdersUptoSaid : Prop := landmarkOrdersUptoRow.holds Try.pinned (OpenSpec.upto landmarkOrdersSpec)

/-- 'stratagemlaw36.LandmarkAchievers', WHERE WHAT IT READS IS OF BULK AT MOST 1048576: true; the input reads as it did. -/
def landmarkAchieversUptoRow : OpenClaim := { program := "ytenmeiplglbafaa", sum := "50d90aa9091971c46533e8175404f3701281625832bd55442770cc3c49bdfb7e", func := "stratagem/stratagemlaw36.LandmarkAchievers", spec := "landmarkAchievers", unfollowed := true, recurses := true, apart := false, narrowed := true }
def LandmarkAchieversUptoSaid : Prop := landmarkAchieversUptoRow.holds Try.pinned (OpenSpec.upto landmarkAchieversSpec)

/-- 'stratagemlaw36.LandmarkCuts', WHERE WHAT IT READS IS OF BULK AT MOST 1048576: true; the input reads as it did. -/
def landmarkCutsUptoRow : OpenClaim := { program := "ytenmeiplglbafaa", sum := "50d90aa9091971c46533e8175404f3701281625832bd55442770cc3c49bdfb7e", func := "stratagem/stratagemlaw36.LandmarkCuts", spec := "landmarkCuts", unfollowed := true, recurses := true, apart := false, narrowed := true }
def LandmarkCutsUptoSaid : Prop := landmarkCutsUptoRow.holds Try.pinned (OpenSpec.upto landmarkCutsSpec)

/-- 'stratagemlaw36.LandmarkActions', WHERE WHAT IT READS IS OF BULK AT MOST 1048576: true; the input reads as it did. -/
def landmarkActionsUptoRow : OpenClaim := { program := "ytenmeiplglbafaa", sum := "50d90aa9091971c46533e8175404f3701281625832bd55442770cc3c49bdfb7e", func := "stratagem/stratagemlaw36.LandmarkActions", spec := "landmarkActions", unfollowed := true, recurses := true, apart := false, narrowed := true }
def LandmarkActionsUptoSaid : Prop := landmarkActionsUptoRow.holds Try.pinned (OpenSpec.upto landmarkActionsSpec)

/-- 'stratagemlaw36.LandmarkGoals', WHERE WHAT IT READS IS OF BULK AT MOST 1048576: true; the input reads as it did. -/
def landmarkGoalsUptoRow : OpenClaim := { program := "ytenmeiplglbafaa", sum := "50d90aa9091971c46533e8175404f3701281625832bd55442770cc3c49bdfb7e", func := "stratagem/stratagemlaw36.LandmarkGoals", spec := "landmarkGoals", unfollowed := true, recurses := true, apart := false, narrowed := true }
def LandmarkGoalsUptoSaid : Prop := landmarkGoalsUptoRow.holds Try.pinned (OpenSpec.upto landmarkGoalsSpec)

end Rows
end Go.Proofs.Ytenmeiplglbafaa

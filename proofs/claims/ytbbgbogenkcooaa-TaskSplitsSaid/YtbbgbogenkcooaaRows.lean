/-
  No cell of these rows narrows 'for every input' (looked for: loops, veiled, ifaces, maps, wideKeys, modest, calm, conditions, laid).
  DERIVED. THE GIVEN ROWS OF THIS SEAT. 13 by the template 'for every input the law returns true; each argument reads behind the call as it read before'; 0 by the template 'total and deterministic' (their statements: YtbbgbogenkcooaaTotals.lean).
  GIVEN WITH THE SEED: the statements are not yours to turn. If you find one false, say at which input.
  Laid BY PROGRAM, IN A SANDBOX (cutbox-rows.mjs): the forced cells as the released guide's own fill.sh prints them over the translation 10adce66d4f27529… (all of the seat's roots in one cut). By AI agents, Wed Nov 11 2026. No macro, syntax, notation, axiom, sorry.
-/
import Derived.Test.YtbbgbogenkcooaaChecked
import GoSem.Claim
import GoSem.ClaimJoined
import GoSem.ClaimMapViews
import Derived.JoinedTies
import Derived.KernelRfl
namespace Go.Proofs.Ytbbgbogenkcooaa
/- THE CELL 'sum', in the pinned program and in every row, IS THE sha256 OF THE DUMP (.gsa) THAT YtbbgbogenkcooaaProg.lean LOADS. Nothing in Lean hashes anything: it is a label: what it is worth is what the hold of that sum in a sandbox is worth. -/
noncomputable def Try.pinned : Pinned := { name := "ytbbgbogenkcooaa", sum := "10adce66d4f275297ad1112a479b5ed18c69c17e9b627beb8602383fabadb7e8", checked := Try.checked }
namespace Rows
def none {H : Type} : Left H := { results := [], args := [] }

/-- 'stratagemlaw39.CausalArcs': WHATEVER THE INPUT: true; the input reads as it did. -/
def causalArcsSpec : ChangeSpec := { name := "causalArcs", fn := fun _ => fun
  | [d] => { results := [.lit (.bool true)], args := [d] }
  | _ => none }
def causalArcsRow : OpenClaim := { program := "ytbbgbogenkcooaa", sum := "10adce66d4f275297ad1112a479b5ed18c69c17e9b627beb8602383fabadb7e8", func := "stratagem/stratagemlaw39.CausalArcs", spec := "causalArcs", unfollowed := true, recurses := true, apart := false }
def CausalArcsSaid : Prop := causalArcsRow.holds Try.pinned (OpenSpec.ofChange causalArcsSpec)

/-- ITS FALSE NEIGHBOUR: 'it returns false'. Refute it at one input. -/
def causalArcsWrong : ChangeSpec := { name := "causalArcs", fn := fun _ => fun
  | [d] => { results := [.lit (.bool false)], args := [d] }
  | _ => none }
def CausalArcsWrongFalsely : Prop := causalArcsRow.holds Try.pinned (OpenSpec.ofChange causalArcsWrong)

/-- 'stratagemlaw39.CausalRelevant': WHATEVER THE INPUT: true; the input reads as it did. -/
def causalRelevantSpec : ChangeSpec := { name := "causalRelevant", fn := fun _ => fun
  | [d1, d2] => { results := [.lit (.bool true)], args := [d1, d2] }
  | _ => none }
def causalRelevantRow : OpenClaim := { program := "ytbbgbogenkcooaa", sum := "10adce66d4f275297ad1112a479b5ed18c69c17e9b627beb8602383fabadb7e8", func := "stratagem/stratagemlaw39.CausalRelevant", spec := "causalRelevant", unfollowed := true, recurses := true, apart := false }
def CausalRelevantSaid : Prop := causalRelevantRow.holds Try.pinned (OpenSpec.ofChange causalRelevantSpec)

/-- ITS FALSE NEIGHBOUR: 'it returns false'. Refute it at one input. -/
def causalRelevantWrong : ChangeSpec := { name := "causalRelevant", fn := fun _ => fun
  | [d1, d2] => { results := [.lit (.bool false)], args := [d1, d2] }
  | _ => none }
def CausalRelevantWrongFalsely : Prop := causalRelevantRow.holds Try.pinned (OpenSpec.ofChange causalRelevantWrong)

/-- 'stratagemlaw39.CausalConnected': WHATEVER THE INPUT: true; the input reads as it did. -/
def causalConnectedSpec : ChangeSpec := { name := "causalConnected", fn := fun _ => fun
  | [d1, d2, d3] => { results := [.lit (.bool true)], args := [d1, d2, d3] }
  | _ => none }
def causalConnectedRow : OpenClaim := { program := "ytbbgbogenkcooaa", sum := "10adce66d4f275297ad1112a479b5ed18c69c17e9b627beb8602383fabadb7e8", func := "stratagem/stratagemlaw39.CausalConnected", spec := "causalConnected", unfollowed := true, recurses := true, apart := false }
def CausalConnectedSaid : Prop := causalConnectedRow.holds Try.pinned (OpenSpec.ofChange causalConnectedSpec)

/-- ITS FALSE NEIGHBOUR: 'it returns false'. Refute it at one input. -/
def causalConnectedWrong : ChangeSpec := { name := "causalConnected", fn := fun _ => fun
  | [d1, d2, d3] => { results := [.lit (.bool false)], args := [d1, d2, d3] }
  | _ => none }
def CausalConnectedWrongFalsely : Prop := causalConnectedRow.holds Try.pinned (OpenSpec.ofChange causalConnectedWrong)

/-- 'stratagemlaw39.CausalRestricts': WHATEVER THE INPUT: true; the input reads as it did. -/
def causalRestrictsSpec : ChangeSpec := { name := "causalRestricts", fn := fun _ => fun
  | [d] => { results := [.lit (.bool true)], args := [d] }
  | _ => none }
def causalRestrictsRow : OpenClaim := { program := "ytbbgbogenkcooaa", sum := "10adce66d4f275297ad1112a479b5ed18c69c17e9b627beb8602383fabadb7e8", func := "stratagem/stratagemlaw39.CausalRestricts", spec := "causalRestricts", unfollowed := true, recurses := true, apart := false }
def CausalRestrictsSaid : Prop := causalRestrictsRow.holds Try.pinned (OpenSpec.ofChange causalRestrictsSpec)

/-- ITS FALSE NEIGHBOUR: 'it returns false'. Refute it at one input. -/
def causalRestrictsWrong : ChangeSpec := { name := "causalRestricts", fn := fun _ => fun
  | [d] => { results := [.lit (.bool false)], args := [d] }
  | _ => none }
def CausalRestrictsWrongFalsely : Prop := causalRestrictsRow.holds Try.pinned (OpenSpec.ofChange causalRestrictsWrong)

/-- 'stratagemlaw39.CausalCosts': WHATEVER THE INPUT: true; the input reads as it did. -/
def causalCostsSpec : ChangeSpec := { name := "causalCosts", fn := fun _ => fun
  | [d] => { results := [.lit (.bool true)], args := [d] }
  | _ => none }
def causalCostsRow : OpenClaim := { program := "ytbbgbogenkcooaa", sum := "10adce66d4f275297ad1112a479b5ed18c69c17e9b627beb8602383fabadb7e8", func := "stratagem/stratagemlaw39.CausalCosts", spec := "causalCosts", unfollowed := true, recurses := true, apart := false }
def CausalCostsSaid : Prop := causalCostsRow.holds Try.pinned (OpenSpec.ofChange causalCostsSpec)

/-- ITS FALSE NEIGHBOUR: 'it returns false'. Refute it at one input. -/
def causalCostsWrong : ChangeSpec := { name := "causalCosts", fn := fun _ => fun
  | [d] => { results := [.lit (.bool false)], args := [d] }
  | _ => none }
def CausalCostsWrongFalsely : Prop := causalCostsRow.holds Try.pinned (OpenSpec.ofChange causalCostsWrong)

/-- 'stratagemlaw39.CausalPlans': WHATEVER THE INPUT: true; the input reads as it did. -/
def causalPlansSpec : ChangeSpec := { name := "causalPlans", fn := fun _ => fun
  | [d1, d2] => { results := [.lit (.bool true)], args := [d1, d2] }
  | _ => none }
def causalPlansRow : OpenClaim := { program := "ytbbgbogenkcooaa", sum := "10adce66d4f275297ad1112a479b5ed18c69c17e9b627beb8602383fabadb7e8", func := "stratagem/stratagemlaw39.CausalPlans", spec := "causalPlans", unfollowed := true, recurses := true, apart := false }
def CausalPlansSaid : Prop := causalPlansRow.holds Try.pinned (OpenSpec.ofChange causalPlansSpec)

/-- ITS FALSE NEIGHBOUR: 'it returns false'. Refute it at one input. -/
def causalPlansWrong : ChangeSpec := { name := "causalPlans", fn := fun _ => fun
  | [d1, d2] => { results := [.lit (.bool false)], args := [d1, d2] }
  | _ => none }
def CausalPlansWrongFalsely : Prop := causalPlansRow.holds Try.pinned (OpenSpec.ofChange causalPlansWrong)

/-- 'stratagemlaw39.CausalErrors': WHATEVER THE INPUT: true; the input reads as it did. -/
def causalErrorsSpec : ChangeSpec := { name := "causalErrors", fn := fun _ => fun
  | [d1, d2] => { results := [.lit (.bool true)], args := [d1, d2] }
  | _ => none }
def causalErrorsRow : OpenClaim := { program := "ytbbgbogenkcooaa", sum := "10adce66d4f275297ad1112a479b5ed18c69c17e9b627beb8602383fabadb7e8", func := "stratagem/stratagemlaw39.CausalErrors", spec := "causalErrors", unfollowed := true, recurses := true, apart := false }
def CausalErrorsSaid : Prop := causalErrorsRow.holds Try.pinned (OpenSpec.ofChange causalErrorsSpec)

/-- ITS FALSE NEIGHBOUR: 'it returns false'. Refute it at one input. -/
def causalErrorsWrong : ChangeSpec := { name := "causalErrors", fn := fun _ => fun
  | [d1, d2] => { results := [.lit (.bool false)], args := [d1, d2] }
  | _ => none }
def CausalErrorsWrongFalsely : Prop := causalErrorsRow.holds Try.pinned (OpenSpec.ofChange causalErrorsWrong)

/-- 'stratagemlaw05.TaskChecks': WHATEVER THE INPUT: true; the input reads as it did. -/
def taskChecksSpec : ChangeSpec := { name := "taskChecks", fn := fun _ => fun
  | [d] => { results := [.lit (.bool true)], args := [d] }
  | _ => none }
def taskChecksRow : OpenClaim := { program := "ytbbgbogenkcooaa", sum := "10adce66d4f275297ad1112a479b5ed18c69c17e9b627beb8602383fabadb7e8", func := "stratagem/stratagemlaw05.TaskChecks", spec := "taskChecks", unfollowed := true, recurses := true, apart := false }
def TaskChecksSaid : Prop := taskChecksRow.holds Try.pinned (OpenSpec.ofChange taskChecksSpec)

/-- ITS FALSE NEIGHBOUR: 'it returns false'. Refute it at one input. -/
def taskChecksWrong : ChangeSpec := { name := "taskChecks", fn := fun _ => fun
  | [d] => { results := [.lit (.bool false)], args := [d] }
  | _ => none }
def TaskChecksWrongFalsely : Prop := taskChecksRow.holds Try.pinned (OpenSpec.ofChange taskChecksWrong)

/-- 'stratagemlaw05.TaskLists': WHATEVER THE INPUT: true; the input reads as it did. -/
def taskListsSpec : ChangeSpec := { name := "taskLists", fn := fun _ => fun
  | [d1, d2, d3] => { results := [.lit (.bool true)], args := [d1, d2, d3] }
  | _ => none }
def taskListsRow : OpenClaim := { program := "ytbbgbogenkcooaa", sum := "10adce66d4f275297ad1112a479b5ed18c69c17e9b627beb8602383fabadb7e8", func := "stratagem/stratagemlaw05.TaskLists", spec := "taskLists", unfollowed := true, recurses := true, apart := false }
def TaskListsSaid : Prop := taskListsRow.holds Try.pinned (OpenSpec.ofChange taskListsSpec)

/-- ITS FALSE NEIGHBOUR: 'it returns false'. Refute it at one input. -/
def taskListsWrong : ChangeSpec := { name := "taskLists", fn := fun _ => fun
  | [d1, d2, d3] => { results := [.lit (.bool false)], args := [d1, d2, d3] }
  | _ => none }
def TaskListsWrongFalsely : Prop := taskListsRow.holds Try.pinned (OpenSpec.ofChange taskListsWrong)

/-- 'stratagemlaw05.TaskRuns': WHATEVER THE INPUT: true; the input reads as it did. -/
def taskRunsSpec : ChangeSpec := { name := "taskRuns", fn := fun _ => fun
  | [d1, d2, d3] => { results := [.lit (.bool true)], args := [d1, d2, d3] }
  | _ => none }
def taskRunsRow : OpenClaim := { program := "ytbbgbogenkcooaa", sum := "10adce66d4f275297ad1112a479b5ed18c69c17e9b627beb8602383fabadb7e8", func := "stratagem/stratagemlaw05.TaskRuns", spec := "taskRuns", unfollowed := true, recurses := true, apart := false }
def TaskRunsSaid : Prop := taskRunsRow.holds Try.pinned (OpenSpec.ofChange taskRunsSpec)

/-- ITS FALSE NEIGHBOUR: 'it returns false'. Refute it at one input. -/
def taskRunsWrong : ChangeSpec := { name := "taskRuns", fn := fun _ => fun
  | [d1, d2, d3] => { results := [.lit (.bool false)], args := [d1, d2, d3] }
  | _ => none }
def TaskRunsWrongFalsely : Prop := taskRunsRow.holds Try.pinned (OpenSpec.ofChange taskRunsWrong)

/-- 'stratagemlaw05.TaskSplits': WHATEVER THE INPUT: true; the input reads as it did. -/
def taskSplitsSpec : ChangeSpec := { name := "taskSplits", fn := fun _ => fun
  | [d1, d2, d3] => { results := [.lit (.bool true)], args := [d1, d2, d3] }
  | _ => none }
def taskSplitsRow : OpenClaim := { program := "ytbbgbogenkcooaa", sum := "10adce66d4f275297ad1112a479b5ed18c69c17e9b627beb8602383fabadb7e8", func := "stratagem/stratagemlaw05.TaskSplits", spec := "taskSplits", unfollowed := true, recurses := true, apart := false }
def TaskSplitsSaid : Prop := taskSplitsRow.holds Try.pinned (OpenSpec.ofChange taskSplitsSpec)

/-- ITS FALSE NEIGHBOUR: 'it returns false'. Refute it at one input. -/
def taskSplitsWrong : ChangeSpec := { name := "taskSplits", fn := fun _ => fun
  | [d1, d2, d3] => { results := [.lit (.bool false)], args := [d1, d2, d3] }
  | _ => none }
def TaskSplitsWrongFalsely : Prop := taskSplitsRow.holds Try.pinned (OpenSpec.ofChange taskSplitsWrong)

/-- 'stratagemlaw05.TaskApplies': WHATEVER THE INPUT: true; the input reads as it did. -/
def taskAppliesSpec : ChangeSpec := { name := "taskApplies", fn := fun _ => fun
  | [d1, d2, d3] => { results := [.lit (.bool true)], args := [d1, d2, d3] }
  | _ => none }
def taskAppliesRow : OpenClaim := { program := "ytbbgbogenkcooaa", sum := "10adce66d4f275297ad1112a479b5ed18c69c17e9b627beb8602383fabadb7e8", func := "stratagem/stratagemlaw05.TaskApplies", spec := "taskApplies", unfollowed := true, recurses := true, apart := false }
def TaskAppliesSaid : Prop := taskAppliesRow.holds Try.pinned (OpenSpec.ofChange taskAppliesSpec)

/-- ITS FALSE NEIGHBOUR: 'it returns false'. Refute it at one input. -/
def taskAppliesWrong : ChangeSpec := { name := "taskApplies", fn := fun _ => fun
  | [d1, d2, d3] => { results := [.lit (.bool false)], args := [d1, d2, d3] }
  | _ => none }
def TaskAppliesWrongFalsely : Prop := taskAppliesRow.holds Try.pinned (OpenSpec.ofChange taskAppliesWrong)

/-- 'stratagemlaw05.TaskRanks': WHATEVER THE INPUT: true; the input reads as it did. -/
def taskRanksSpec : ChangeSpec := { name := "taskRanks", fn := fun _ => fun
  | [d1, d2, d3] => { results := [.lit (.bool true)], args := [d1, d2, d3] }
  | _ => none }
def taskRanksRow : OpenClaim := { program := "ytbbgbogenkcooaa", sum := "10adce66d4f275297ad1112a479b5ed18c69c17e9b627beb8602383fabadb7e8", func := "stratagem/stratagemlaw05.TaskRanks", spec := "taskRanks", unfollowed := true, recurses := true, apart := false }
def TaskRanksSaid : Prop := taskRanksRow.holds Try.pinned (OpenSpec.ofChange taskRanksSpec)

/-- ITS FALSE NEIGHBOUR: 'it returns false'. Refute it at one input. -/
def taskRanksWrong : ChangeSpec := { name := "taskRanks", fn := fun _ => fun
  | [d1, d2, d3] => { results := [.lit (.bool false)], args := [d1, d2, d3] }
  | _ => none }
def TaskRanksWrongFalsely : Prop := taskRanksRow.holds Try.pinned (OpenSpec.ofChange taskRanksWrong)

/- THE SECOND FORM. 'bulk': how many values and letters a reading holds, each counted each time it is reached (what is shared counts as often as it is met; a slice's spare places count too). A statement '..UptoSaid' is the law's where the arguments, and the package variables that the reading takes, are together of bulk at most 1048576: NARROWER than '..Said'. Prove '..Said' where nothing that the law and all that it calls make is longer than what came in: it says more and counts as full. Else prove '..UptoSaid'. A law counts once. -/
mutual
def uptoBulk {H : Type} : DataW H → Nat
  | .lit (.string bytes) => bytes.length + 1
  | .lit _ => 1
  | .nil => 1
  | .ptr d => uptoBulk d + 1
  | .slice elems spare => uptoBulkAll elems + uptoBulkAll spare + 1
  | .agg parts => uptoBulkAll parts + 1
  | .iface _ d => uptoBulk d + 1
  | .map entries => uptoBulkEntries entries + 1
  | .held _ => 1
def uptoBulkAll {H : Type} : List (DataW H) → Nat
  | [] => 0
  | d :: r => uptoBulk d + uptoBulkAll r
def uptoBulkEntries {H : Type} : List (Lit × DataW H) → Nat
  | [] => 0
  | x :: r => uptoBulkEntry x + uptoBulkEntries r
def uptoBulkEntry {H : Type} : Lit × DataW H → Nat
  | (.string bytes, d) => bytes.length + uptoBulk d + 1
  | (_, d) => uptoBulk d + 1
 end
def uptoSmall : (H : Type) → List (DataW H) → Bool := fun _ ds => decide (uptoBulkAll ds ≤ 1048576)
def OpenSpec.upto (s : _root_.Go.ChangeSpec) : _root_.Go.OpenSpec := { _root_.Go.OpenSpec.ofChange s with cond := some uptoSmall }

/-- 'stratagemlaw39.CausalArcs', WHERE WHAT IT READS IS OF BULK AT MOST 1048576: true; the input reads as it did. -/
def causalArcsUptoRow : OpenClaim := { program := "ytbbgbogenkcooaa", sum := "10adce66d4f275297ad1112a479b5ed18c69c17e9b627beb8602383fabadb7e8", func := "stratagem/stratagemlaw39.CausalArcs", spec := "causalArcs", unfollowed := true, recurses := true, apart := false, narrowed := true }
def CausalArcsUptoSaid : Prop := causalArcsUptoRow.holds Try.pinned (OpenSpec.upto causalArcsSpec)

/-- 'stratagemlaw39.CausalRelevant', WHERE WHAT IT READS IS OF BULK AT MOST 1048576: true; the input reads as it did. -/
def causalRelevantUptoRow : OpenClaim := { program := "ytbbgbogenkcooaa", sum := "10adce66d4f275297ad1112a479b5ed18c69c17e9b627beb8602383fabadb7e8", func := "stratagem/stratagemlaw39.CausalRelevant", spec := "causalRelevant", unfollowed := true, recurses := true, apart := false, narrowed := true }
def CausalRelevantUptoSaid : Prop := causalRelevantUptoRow.holds Try.pinned (OpenSpec.upto causalRelevantSpec)

/-- 'stratagemlaw39.CausalConnected', WHERE WHAT IT READS IS OF BULK AT MOST 1048576: true; the input reads as it did. -/
def causalConnectedUptoRow : OpenClaim := { program := "ytbbgbogenkcooaa", sum := "10adce66d4f275297ad1112a479b5ed18c69c17e9b627beb8602383fabadb7e8", func := "stratagem/stratagemlaw39.CausalConnected", spec := "causalConnected", unfollowed := true, recurses := true, apart := false, narrowed := true }
def CausalConnectedUptoSaid : Prop := causalConnectedUptoRow.holds Try.pinned (OpenSpec.upto causalConnectedSpec)

/-- 'stratagemlaw39.CausalRestricts', WHERE WHAT IT READS IS OF BULK AT MOST 1048576: true; the input reads as it did. -/
def causalRestrictsUptoRow : OpenClaim := { program := "ytbbgbogenkcooaa", sum := "10adce66d4f275297ad1112a479b5ed18c69c17e9b627beb8602383fabadb7e8", func := "stratagem/stratagemlaw39.CausalRestricts", spec := "causalRestricts", unfollowed := true, recurses := true, apart := false, narrowed := true }
def CausalRestrictsUptoSaid : Prop := causalRestrictsUptoRow.holds Try.pinned (OpenSpec.upto causalRestrictsSpec)

/-- 'stratagemlaw39.CausalCosts', WHERE WHAT IT READS IS OF BULK AT MOST 1048576: true; the input reads as it did. -/
def causalCostsUptoRow : OpenClaim := { program := "ytbbgbogenkcooaa", sum := "10adce66d4f275297ad1112a479b5ed18c69c17e9b627beb8602383fabadb7e8", func := "stratagem/stratagemlaw39.CausalCosts", spec := "causalCosts", unfollowed := true, recurses := true, apart := false, narrowed := true }
def CausalCostsUptoSaid : Prop := causalCostsUptoRow.holds Try.pinned (OpenSpec.upto causalCostsSpec)

/-- 'stratagemlaw39.CausalPlans', WHERE WHAT IT READS IS OF BULK AT MOST 1048576: true; the input reads as it did. -/
def causalPlansUptoRow : OpenClaim := { program := "ytbbgbogenkcooaa", sum := "10adce66d4f275297ad1112a479b5ed18c69c17e9b627beb8602383fabadb7e8", func := "stratagem/stratagemlaw39.CausalPlans", spec := "causalPlans", unfollowed := true, recurses := true, apart := false, narrowed := true }
def CausalPlansUptoSaid : Prop := causalPlansUptoRow.holds Try.pinned (OpenSpec.upto causalPlansSpec)

/-- 'stratagemlaw39.CausalErrors', WHERE WHAT IT READS IS OF BULK AT MOST 1048576: true; the input reads as it did. -/
def causalErrorsUptoRow : OpenClaim := { program := "ytbbgbogenkcooaa", sum := "10adce66d4f275297ad1112a479b5ed18c69c17e9b627beb8602383fabadb7e8", func := "stratagem/stratagemlaw39.CausalErrors", spec := "causalErrors", unfollowed := true, recurses := true, apart := false, narrowed := true }
def CausalErrorsUptoSaid : Prop := causalErrorsUptoRow.holds Try.pinned (OpenSpec.upto causalErrorsSpec)

/-- 'stratagemlaw05.TaskChecks', WHERE WHAT IT READS IS OF BULK AT MOST 1048576: true; the input reads as it did. -/
def taskChecksUptoRow : OpenClaim := { program := "ytbbgbogenkcooaa", sum := "10adce66d4f275297ad1112a479b5ed18c69c17e9b627beb8602383fabadb7e8", func := "stratagem/stratagemlaw05.TaskChecks", spec := "taskChecks", unfollowed := true, recurses := true, apart := false, narrowed := true }
def TaskChecksUptoSaid : Prop := taskChecksUptoRow.holds Try.pinned (OpenSpec.upto taskChecksSpec)

/-- 'stratagemlaw05.TaskLists', WHERE WHAT IT READS IS OF BULK AT MOST 1048576: true; the input reads as it did. -/
def taskListsUptoRow : OpenClaim := { program := "ytbbgbogenkcooaa", sum := "10adce66d4f275297ad1112a479b5ed18c69c17e9b627beb8602383fabadb7e8", func := "stratagem/stratagemlaw05.TaskLists", spec := "taskLists", unfollowed := true, recurses := true, apart := false, narrowed := true }
def TaskListsUptoSaid : Prop := taskListsUptoRow.holds Try.pinned (OpenSpec.upto taskListsSpec)

/-- 'stratagemlaw05.TaskRuns', WHERE WHAT IT READS IS OF BULK AT MOST 1048576: true; the input reads as it did. -/
def taskRunsUptoRow : OpenClaim := { program := "ytbbgbogenkcooaa", sum := "10adce66d4f275297ad1112a479b5ed18c69c17e9b627beb8602383fabadb7e8", func := "stratagem/stratagemlaw05.TaskRuns", spec := "taskRuns", unfollowed := true, recurses := true, apart := false, narrowed := true }
def TaskRunsUptoSaid : Prop := taskRunsUptoRow.holds Try.pinned (OpenSpec.upto taskRunsSpec)

/-- 'stratagemlaw05.TaskSplits', WHERE WHAT IT READS IS OF BULK AT MOST 1048576: true; the input reads as it did. -/
def taskSplitsUptoRow : OpenClaim := { program := "ytbbgbogenkcooaa", sum := "10adce66d4f275297ad1112a479b5ed18c69c17e9b627beb8602383fabadb7e8", func := "stratagem/stratagemlaw05.TaskSplits", spec := "taskSplits", unfollowed := true, recurses := true, apart := false, narrowed := true }
def TaskSplitsUptoSaid : Prop := taskSplitsUptoRow.holds Try.pinned (OpenSpec.upto taskSplitsSpec)

/-- 'stratagemlaw05.TaskApplies', WHERE WHAT IT READS IS OF BULK AT MOST 1048576: true; the input reads as it did. -/
def taskAppliesUptoRow : OpenClaim := { program := "ytbbgbogenkcooaa", sum := "10adce66d4f275297ad1112a479b5ed18c69c17e9b627beb8602383fabadb7e8", func := "stratagem/stratagemlaw05.TaskApplies", spec := "taskApplies", unfollowed := true, recurses := true, apart := false, narrowed := true }
def TaskAppliesUptoSaid : Prop := taskAppliesUptoRow.holds Try.pinned (OpenSpec.upto taskAppliesSpec)

/-- 'stratagemlaw05.TaskRanks', WHERE WHAT IT READS IS OF BULK AT MOST 1048576: true; the input reads as it did. -/
def taskRanksUptoRow : OpenClaim := { program := "ytbbgbogenkcooaa", sum := "10adce66d4f275297ad1112a479b5ed18c69c17e9b627beb8602383fabadb7e8", func := "stratagem/stratagemlaw05.TaskRanks", spec := "taskRanks", unfollowed := true, recurses := true, apart := false, narrowed := true }
def TaskRanksUptoSaid : Prop := taskRanksUptoRow.holds Try.pinned (OpenSpec.upto taskRanksSpec)

end Rows
end Go.Proofs.Ytbbgbogenkcooaa

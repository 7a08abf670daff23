/-
  No cell of these rows narrows 'for every input' (looked for: loops, veiled, ifaces, maps, wideKeys, modest, calm, conditions, laid).
  DERIVED. THE GIVEN ROWS OF THIS SEAT. 10 by the template 'for every input the law returns true; each argument reads behind the call as it read before'; 0 by the template 'total and deterministic' (their statements: YtaomaopbdilmnaaTotals.lean).
  GIVEN WITH THE SEED: the statements are not yours to turn. If you find one false, say at which input.
  Laid BY PROGRAM, IN A SANDBOX (cutbox-rows.mjs): the forced cells as the released guide's own fill.sh prints them over the translation 0b6ec33ab6bf7298… (all of the seat's roots in one cut). By AI agents, Wed Nov 11 2026. No macro, syntax, notation, axiom, sorry.
-/
import Derived.Test.YtaomaopbdilmnaaChecked
import GoSem.Claim
import GoSem.ClaimJoined
import GoSem.ClaimMapViews
import Derived.JoinedTies
import Derived.KernelRfl
namespace Go.Proofs.Ytaomaopbdilmnaa
/- THE CELL 'sum', in the pinned program and in every row, IS THE sha256 OF THE DUMP (.gsa) THAT YtaomaopbdilmnaaProg.lean LOADS. Nothing in Lean hashes anything: it is a label: what it is worth is what the hold of that sum in a sandbox is worth. -/
noncomputable def Try.pinned : Pinned := { name := "ytaomaopbdilmnaa", sum := "0b6ec33ab6bf729882df9a3e7062037171ec7b23aa2eeaf21cbf23a58c0dab47", checked := Try.checked }
namespace Rows
def none {H : Type} : Left H := { results := [], args := [] }

/-- 'stratagemlaw37.SimplexUnbounded': WHATEVER THE INPUT: true; the input reads as it did. -/
def simplexUnboundedSpec : ChangeSpec := { name := "simplexUnbounded", fn := fun _ => fun
  | [d1, d2] => { results := [.lit (.bool true)], args := [d1, d2] }
  | _ => none }
def simplexUnboundedRow : OpenClaim := { program := "ytaomaopbdilmnaa", sum := "0b6ec33ab6bf729882df9a3e7062037171ec7b23aa2eeaf21cbf23a58c0dab47", func := "stratagem/stratagemlaw37.SimplexUnbounded", spec := "simplexUnbounded", unfollowed := true, recurses := true, apart := false }
def SimplexUnboundedSaid : Prop := simplexUnboundedRow.holds Try.pinned (OpenSpec.ofChange simplexUnboundedSpec)

/-- ITS FALSE NEIGHBOUR: 'it returns false'. Refute it at one input. -/
def simplexUnboundedWrong : ChangeSpec := { name := "simplexUnbounded", fn := fun _ => fun
  | [d1, d2] => { results := [.lit (.bool false)], args := [d1, d2] }
  | _ => none }
def SimplexUnboundedWrongFalsely : Prop := simplexUnboundedRow.holds Try.pinned (OpenSpec.ofChange simplexUnboundedWrong)

/-- 'stratagemlaw37.SimplexScales': WHATEVER THE INPUT: true; the input reads as it did. -/
def simplexScalesSpec : ChangeSpec := { name := "simplexScales", fn := fun _ => fun
  | [d1, d2, d3] => { results := [.lit (.bool true)], args := [d1, d2, d3] }
  | _ => none }
def simplexScalesRow : OpenClaim := { program := "ytaomaopbdilmnaa", sum := "0b6ec33ab6bf729882df9a3e7062037171ec7b23aa2eeaf21cbf23a58c0dab47", func := "stratagem/stratagemlaw37.SimplexScales", spec := "simplexScales", unfollowed := true, recurses := true, apart := false }
def SimplexScalesSaid : Prop := simplexScalesRow.holds Try.pinned (OpenSpec.ofChange simplexScalesSpec)

/-- ITS FALSE NEIGHBOUR: 'it returns false'. Refute it at one input. -/
def simplexScalesWrong : ChangeSpec := { name := "simplexScales", fn := fun _ => fun
  | [d1, d2, d3] => { results := [.lit (.bool false)], args := [d1, d2, d3] }
  | _ => none }
def SimplexScalesWrongFalsely : Prop := simplexScalesRow.holds Try.pinned (OpenSpec.ofChange simplexScalesWrong)

/-- 'stratagemlaw37.SimplexLimits': WHATEVER THE INPUT: true; the input reads as it did. -/
def simplexLimitsSpec : ChangeSpec := { name := "simplexLimits", fn := fun _ => fun
  | [d1, d2] => { results := [.lit (.bool true)], args := [d1, d2] }
  | _ => none }
def simplexLimitsRow : OpenClaim := { program := "ytaomaopbdilmnaa", sum := "0b6ec33ab6bf729882df9a3e7062037171ec7b23aa2eeaf21cbf23a58c0dab47", func := "stratagem/stratagemlaw37.SimplexLimits", spec := "simplexLimits", unfollowed := true, recurses := true, apart := false }
def SimplexLimitsSaid : Prop := simplexLimitsRow.holds Try.pinned (OpenSpec.ofChange simplexLimitsSpec)

/-- ITS FALSE NEIGHBOUR: 'it returns false'. Refute it at one input. -/
def simplexLimitsWrong : ChangeSpec := { name := "simplexLimits", fn := fun _ => fun
  | [d1, d2] => { results := [.lit (.bool false)], args := [d1, d2] }
  | _ => none }
def SimplexLimitsWrongFalsely : Prop := simplexLimitsRow.holds Try.pinned (OpenSpec.ofChange simplexLimitsWrong)

/-- 'stratagemlaw37.SimplexSolves': WHATEVER THE INPUT: true; the input reads as it did. -/
def simplexSolvesSpec : ChangeSpec := { name := "simplexSolves", fn := fun _ => fun
  | [d] => { results := [.lit (.bool true)], args := [d] }
  | _ => none }
def simplexSolvesRow : OpenClaim := { program := "ytaomaopbdilmnaa", sum := "0b6ec33ab6bf729882df9a3e7062037171ec7b23aa2eeaf21cbf23a58c0dab47", func := "stratagem/stratagemlaw37.SimplexSolves", spec := "simplexSolves", unfollowed := true, recurses := true, apart := false }
def SimplexSolvesSaid : Prop := simplexSolvesRow.holds Try.pinned (OpenSpec.ofChange simplexSolvesSpec)

/-- ITS FALSE NEIGHBOUR: 'it returns false'. Refute it at one input. -/
def simplexSolvesWrong : ChangeSpec := { name := "simplexSolves", fn := fun _ => fun
  | [d] => { results := [.lit (.bool false)], args := [d] }
  | _ => none }
def SimplexSolvesWrongFalsely : Prop := simplexSolvesRow.holds Try.pinned (OpenSpec.ofChange simplexSolvesWrong)

/-- 'stratagemlaw37.SimplexOptimal': WHATEVER THE INPUT: true; the input reads as it did. -/
def simplexOptimalSpec : ChangeSpec := { name := "simplexOptimal", fn := fun _ => fun
  | [d] => { results := [.lit (.bool true)], args := [d] }
  | _ => none }
def simplexOptimalRow : OpenClaim := { program := "ytaomaopbdilmnaa", sum := "0b6ec33ab6bf729882df9a3e7062037171ec7b23aa2eeaf21cbf23a58c0dab47", func := "stratagem/stratagemlaw37.SimplexOptimal", spec := "simplexOptimal", unfollowed := true, recurses := true, apart := false }
def SimplexOptimalSaid : Prop := simplexOptimalRow.holds Try.pinned (OpenSpec.ofChange simplexOptimalSpec)

/-- ITS FALSE NEIGHBOUR: 'it returns false'. Refute it at one input. -/
def simplexOptimalWrong : ChangeSpec := { name := "simplexOptimal", fn := fun _ => fun
  | [d] => { results := [.lit (.bool false)], args := [d] }
  | _ => none }
def SimplexOptimalWrongFalsely : Prop := simplexOptimalRow.holds Try.pinned (OpenSpec.ofChange simplexOptimalWrong)

/-- 'stratagemlaw37.SimplexBounds': WHATEVER THE INPUT: true; the input reads as it did. -/
def simplexBoundsSpec : ChangeSpec := { name := "simplexBounds", fn := fun _ => fun
  | [d1, d2, d3] => { results := [.lit (.bool true)], args := [d1, d2, d3] }
  | _ => none }
def simplexBoundsRow : OpenClaim := { program := "ytaomaopbdilmnaa", sum := "0b6ec33ab6bf729882df9a3e7062037171ec7b23aa2eeaf21cbf23a58c0dab47", func := "stratagem/stratagemlaw37.SimplexBounds", spec := "simplexBounds", unfollowed := true, recurses := true, apart := false }
def SimplexBoundsSaid : Prop := simplexBoundsRow.holds Try.pinned (OpenSpec.ofChange simplexBoundsSpec)

/-- ITS FALSE NEIGHBOUR: 'it returns false'. Refute it at one input. -/
def simplexBoundsWrong : ChangeSpec := { name := "simplexBounds", fn := fun _ => fun
  | [d1, d2, d3] => { results := [.lit (.bool false)], args := [d1, d2, d3] }
  | _ => none }
def SimplexBoundsWrongFalsely : Prop := simplexBoundsRow.holds Try.pinned (OpenSpec.ofChange simplexBoundsWrong)

/-- 'stratagemlaw37.SimplexChecks': WHATEVER THE INPUT: true; the input reads as it did. -/
def simplexChecksSpec : ChangeSpec := { name := "simplexChecks", fn := fun _ => fun
  | [d1, d2, d3] => { results := [.lit (.bool true)], args := [d1, d2, d3] }
  | _ => none }
def simplexChecksRow : OpenClaim := { program := "ytaomaopbdilmnaa", sum := "0b6ec33ab6bf729882df9a3e7062037171ec7b23aa2eeaf21cbf23a58c0dab47", func := "stratagem/stratagemlaw37.SimplexChecks", spec := "simplexChecks", unfollowed := true, recurses := true, apart := false }
def SimplexChecksSaid : Prop := simplexChecksRow.holds Try.pinned (OpenSpec.ofChange simplexChecksSpec)

/-- ITS FALSE NEIGHBOUR: 'it returns false'. Refute it at one input. -/
def simplexChecksWrong : ChangeSpec := { name := "simplexChecks", fn := fun _ => fun
  | [d1, d2, d3] => { results := [.lit (.bool false)], args := [d1, d2, d3] }
  | _ => none }
def SimplexChecksWrongFalsely : Prop := simplexChecksRow.holds Try.pinned (OpenSpec.ofChange simplexChecksWrong)

/-- 'stratagemlaw38.PartitionOptimal': WHATEVER THE INPUT: true; the input reads as it did. -/
def partitionOptimalSpec : ChangeSpec := { name := "partitionOptimal", fn := fun _ => fun
  | [d1, d2] => { results := [.lit (.bool true)], args := [d1, d2] }
  | _ => none }
def partitionOptimalRow : OpenClaim := { program := "ytaomaopbdilmnaa", sum := "0b6ec33ab6bf729882df9a3e7062037171ec7b23aa2eeaf21cbf23a58c0dab47", func := "stratagem/stratagemlaw38.PartitionOptimal", spec := "partitionOptimal", unfollowed := true, recurses := true, apart := false }
def PartitionOptimalSaid : Prop := partitionOptimalRow.holds Try.pinned (OpenSpec.ofChange partitionOptimalSpec)

/-- ITS FALSE NEIGHBOUR: 'it returns false'. Refute it at one input. -/
def partitionOptimalWrong : ChangeSpec := { name := "partitionOptimal", fn := fun _ => fun
  | [d1, d2] => { results := [.lit (.bool false)], args := [d1, d2] }
  | _ => none }
def PartitionOptimalWrongFalsely : Prop := partitionOptimalRow.holds Try.pinned (OpenSpec.ofChange partitionOptimalWrong)

/-- 'stratagemlaw38.PartitionBest': WHATEVER THE INPUT: true; the input reads as it did. -/
def partitionBestSpec : ChangeSpec := { name := "partitionBest", fn := fun _ => fun
  | [d1, d2, d3] => { results := [.lit (.bool true)], args := [d1, d2, d3] }
  | _ => none }
def partitionBestRow : OpenClaim := { program := "ytaomaopbdilmnaa", sum := "0b6ec33ab6bf729882df9a3e7062037171ec7b23aa2eeaf21cbf23a58c0dab47", func := "stratagem/stratagemlaw38.PartitionBest", spec := "partitionBest", unfollowed := true, recurses := true, apart := false }
def PartitionBestSaid : Prop := partitionBestRow.holds Try.pinned (OpenSpec.ofChange partitionBestSpec)

/-- ITS FALSE NEIGHBOUR: 'it returns false'. Refute it at one input. -/
def partitionBestWrong : ChangeSpec := { name := "partitionBest", fn := fun _ => fun
  | [d1, d2, d3] => { results := [.lit (.bool false)], args := [d1, d2, d3] }
  | _ => none }
def PartitionBestWrongFalsely : Prop := partitionBestRow.holds Try.pinned (OpenSpec.ofChange partitionBestWrong)

/-- 'stratagemlaw38.PartitionValid': WHATEVER THE INPUT: true; the input reads as it did. -/
def partitionValidSpec : ChangeSpec := { name := "partitionValid", fn := fun _ => fun
  | [d1, d2] => { results := [.lit (.bool true)], args := [d1, d2] }
  | _ => none }
def partitionValidRow : OpenClaim := { program := "ytaomaopbdilmnaa", sum := "0b6ec33ab6bf729882df9a3e7062037171ec7b23aa2eeaf21cbf23a58c0dab47", func := "stratagem/stratagemlaw38.PartitionValid", spec := "partitionValid", unfollowed := true, recurses := true, apart := false }
def PartitionValidSaid : Prop := partitionValidRow.holds Try.pinned (OpenSpec.ofChange partitionValidSpec)

/-- ITS FALSE NEIGHBOUR: 'it returns false'. Refute it at one input. -/
def partitionValidWrong : ChangeSpec := { name := "partitionValid", fn := fun _ => fun
  | [d1, d2] => { results := [.lit (.bool false)], args := [d1, d2] }
  | _ => none }
def PartitionValidWrongFalsely : Prop := partitionValidRow.holds Try.pinned (OpenSpec.ofChange partitionValidWrong)

/- THE SECOND FORM. 'bulk': how many values and letters a reading holds, each counted each time it is reached (what is shared counts as often as it is met; a slice's spare places count too). A statement '..UptoSaid' is the law's where the arguments, and the package variables that the reading takes, are together of bulk at most 1048576: NARROWER than '..Said'. Prove '..Said' where nothing that the law and all that it calls make is longer than what came in: it says more and counts as full. Else prove '..UptoSaid'. A law counts once. -/
mutual
def uptoBulk {H : Type} : DataW H → Nat
  | .lit (.string bytes) => bytes.length + 1
  | .lit _ => 1
  | .nil => 1
  | .ptr d => uptoBulk d + 1
  | .slice elems spare => uptoBulkAll elems + uptoBulkAll spare + 1
  | .agg parts => uptoBulkAll parts + 1
  | .iface _ d => uptoBulk d + 1
  | .map entries => uptoBulkEntries entries + 1
  | .held _ => 1
def uptoBulkAll {H : Type} : List (DataW H) → Nat
  | [] => 0
  | d :: r => uptoBulk d + uptoBulkAll r
def uptoBulkEntries {H : Type} : List (Lit × DataW H) → Nat
  | [] => 0
  | x :: r => uptoBulkEntry x + uptoBulkEntries r
def uptoBulkEntry {H : Type} : Lit × DataW H → Nat
  | (.string bytes, d) => bytes.length + uptoBulk d + 1
  | (_, d) => uptoBulk d + 1
 end
def uptoSmall : (H : Type) → List (DataW H) → Bool := fun _ ds => decide (uptoBulkAll ds ≤ 1048576)
def OpenSpec.upto (s : _root_.Go.ChangeSpec) : _root_.Go.OpenSpec := { _root_.Go.OpenSpec.ofChange s with cond := some uptoSmall }

/-- 'stratagemlaw37.SimplexUnbounded', WHERE WHAT IT READS IS OF BULK AT MOST 1048576: true; the input reads as it did. -/
def simplexUnboundedUptoRow : OpenClaim := { program := "ytaomaopbdilmnaa", sum := "0b6ec33ab6bf729882df9a3e7062037171ec7b23aa2eeaf21cbf23a58c0dab47", func := "stratagem/stratagemlaw37.SimplexUnbounded", spec := "simplexUnbounded", unfollowed := true, recurses := true, apart := false, narrowed := true }
def SimplexUnboundedUptoSaid : Prop := simplexUnboundedUptoRow.holds Try.pinned (OpenSpec.upto simplexUnboundedSpec)

/-- 'stratagemlaw37.SimplexScales', WHERE WHAT IT READS IS OF BULK AT MOST 1048576: true; the input reads as it did. -/
def simplexScalesUptoRow : OpenClaim := { program := "ytaomaopbdilmnaa", sum := "0b6ec33ab6bf729882df9a3e7062037171ec7b23aa2eeaf21cbf23a58c0dab47", func := "stratagem/stratagemlaw37.SimplexScales", spec := "simplexScales", unfollowed := true, recurses := true, apart := false, narrowed := true }
def SimplexScalesUptoSaid : Prop := simplexScalesUptoRow.holds Try.pinned (OpenSpec.upto simplexScalesSpec)

/-- 'stratagemlaw37.SimplexLimits', WHERE WHAT IT READS IS OF BULK AT MOST 1048576: true; the input reads as it did. -/
def simplexLimitsUptoRow : OpenClaim := { program := "ytaomaopbdilmnaa", sum := "0b6ec33ab6bf729882df9a3e7062037171ec7b23aa2eeaf21cbf23a58c0dab47", func := "stratagem/stratagemlaw37.SimplexLimits", spec := "simplexLimits", unfollowed := true, recurses := true, apart := false, narrowed := true }
def SimplexLimitsUptoSaid : Prop := simplexLimitsUptoRow.holds Try.pinned (OpenSpec.upto simplexLimitsSpec)

/-- 'stratagemlaw37.SimplexSolves', WHERE WHAT IT READS IS OF BULK AT MOST 1048576: true; the input reads as it did. -/
def simplexSolvesUptoRow : OpenClaim := { program := "ytaomaopbdilmnaa", sum := "0b6ec33ab6bf729882df9a3e7062037171ec7b23aa2eeaf21cbf23a58c0dab47", func := "stratagem/stratagemlaw37.SimplexSolves", spec := "simplexSolves", unfollowed := true, recurses := true, apart := false, narrowed := true }
def SimplexSolvesUptoSaid : Prop := simplexSolvesUptoRow.holds Try.pinned (OpenSpec.upto simplexSolvesSpec)

/-- 'stratagemlaw37.SimplexOptimal', WHERE WHAT IT READS IS OF BULK AT MOST 1048576: true; the input reads as it did. -/
def simplexOptimalUptoRow : OpenClaim := { program := "ytaomaopbdilmnaa", sum := "0b6ec33ab6bf729882df9a3e7062037171ec7b23aa2eeaf21cbf23a58c0dab47", func := "stratagem/stratagemlaw37.SimplexOptimal", spec := "simplexOptimal", unfollowed := true, recurses := true, apart := false, narrowed := true }
def SimplexOptimalUptoSaid : Prop := simplexOptimalUptoRow.holds Try.pinned (OpenSpec.upto simplexOptimalSpec)

/-- 'stratagemlaw37.SimplexBounds', WHERE WHAT IT READS IS OF BULK AT MOST 1048576: true; the input reads as it did. -/
def simplexBoundsUptoRow : OpenClaim := { program := "ytaomaopbdilmnaa", sum := "0b6ec33ab6bf729882df9a3e7062037171ec7b23aa2eeaf21cbf23a58c0dab47", func := "stratagem/stratagemlaw37.SimplexBounds", spec := "simplexBounds", unfollowed := true, recurses := true, apart := false, narrowed := true }
def SimplexBoundsUptoSaid : Prop := simplexBoundsUptoRow.holds Try.pinned (OpenSpec.upto simplexBoundsSpec)

/-- 'stratagemlaw37.SimplexChecks', WHERE WHAT IT READS IS OF BULK AT MOST 1048576: true; the input reads as it did. -/
def simplexChecksUptoRow : OpenClaim := { program := "ytaomaopbdilmnaa", sum := "0b6ec33ab6bf729882df9a3e7062037171ec7b23aa2eeaf21cbf23a58c0dab47", func := "stratagem/stratagemlaw37.SimplexChecks", spec := "simplexChecks", unfollowed := true, recurses := true, apart := false, narrowed := true }
def SimplexChecksUptoSaid : Prop := simplexChecksUptoRow.holds Try.pinned (OpenSpec.upto simplexChecksSpec)

/-- 'stratagemlaw38.PartitionOptimal', WHERE WHAT IT READS IS OF BULK AT MOST 1048576: true; the input reads as it did. -/
def partitionOptimalUptoRow : OpenClaim := { program := "ytaomaopbdilmnaa", sum := "0b6ec33ab6bf729882df9a3e7062037171ec7b23aa2eeaf21cbf23a58c0dab47", func := "stratagem/stratagemlaw38.PartitionOptimal", spec := "partitionOptimal", unfollowed := true, recurses := true, apart := false, narrowed := true }
def PartitionOptimalUptoSaid : Prop := partitionOptimalUptoRow.holds Try.pinned (OpenSpec.upto partitionOptimalSpec)

/-- 'stratagemlaw38.PartitionBest', WHERE WHAT IT READS IS OF BULK AT MOST 1048576: true; the input reads as it did. -/
def partitionBestUptoRow : OpenClaim := { program := "ytaomaopbdilmnaa", sum := "0b6ec33ab6bf729882df9a3e7062037171ec7b23aa2eeaf21cbf23a58c0dab47", func := "stratagem/stratagemlaw38.PartitionBest", spec := "partitionBest", unfollowed := true, recurses := true, apart := false, narrowed := true }
def PartitionBestUptoSaid : Prop := partitionBestUptoRow.holds Try.pinned (OpenSpec.upto partitionBestSpec)

/-- 'stratagemlaw38.PartitionValid', WHERE WHAT IT READS IS OF BULK AT MOST 1048576: true; the input reads as it did. -/
def partitionValidUptoRow : OpenClaim := { program := "ytaomaopbdilmnaa", sum := "0b6ec33ab6bf729882df9a3e7062037171ec7b23aa2eeaf21cbf23a58c0dab47", func := "stratagem/stratagemlaw38.PartitionValid", spec := "partitionValid", unfollowed := true, recurses := true, apart := false, narrowed := true }
def PartitionValidUptoSaid : Prop := partitionValidUptoRow.holds Try.pinned (OpenSpec.upto partitionValidSpec)

end Rows
end Go.Proofs.Ytaomaopbdilmnaa

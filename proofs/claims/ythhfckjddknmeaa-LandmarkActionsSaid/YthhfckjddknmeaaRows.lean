/-
  No cell of these rows narrows 'for every input' (looked for: loops, veiled, ifaces, maps, wideKeys, modest, calm, conditions, laid).
  DERIVED. THE GIVEN ROWS OF THIS SEAT. 5 by the template 'for every input the law returns true; each argument reads behind the call as it read before'; 0 by the template 'total and deterministic' (their statements: YthhfckjddknmeaaTotals.lean).
  GIVEN WITH THE SEED: the statements are not yours to turn. If you find one false, say at which input.
  Laid BY PROGRAM, IN A SANDBOX (cutbox-rows.mjs): the forced cells as the released guide's own fill.sh prints them over the translation f06d256887e8f138… (all of the seat's roots in one cut). By AI agents, Wed Nov 11 2026. No macro, syntax, notation, axiom, sorry.
-/
import Derived.Test.YthhfckjddknmeaaChecked
import GoSem.Claim
import GoSem.ClaimJoined
import GoSem.ClaimMapViews
import Derived.JoinedTies
import Derived.KernelRfl
namespace Go.Proofs.Ythhfckjddknmeaa
/- THE CELL 'sum', in the pinned program and in every row, IS THE sha256 OF THE DUMP (.gsa) THAT YthhfckjddknmeaaProg.lean LOADS. Nothing in Lean hashes anything: it is a label: what it is worth is what the hold of that sum in a sandbox is worth. -/
noncomputable def Try.pinned : Pinned := { name := "ythhfckjddknmeaa", sum := "f06d256887e8f1382e4c0cd459170eedf36425fd55b4ae18f1160e22575fd752", checked := Try.checked }
namespace Rows
def none {H : Type} : Left H := { results := [], args := [] }

/-- 'stratagemlaw36.LandmarkBefore': WHATEVER THE INPUT: true; the input reads as it did. -/
def landmarkBeforeSpec : ChangeSpec := { name := "landmarkBefore", fn := fun _ => fun
  | [d1, d2, d3] => { results := [.lit (.bool true)], args := [d1, d2, d3] }
  | _ => none }
def landmarkBeforeRow : OpenClaim := { program := "ythhfckjddknmeaa", sum := "f06d256887e8f1382e4c0cd459170eedf36425fd55b4ae18f1160e22575fd752", func := "stratagem/stratagemlaw36.LandmarkBefore", spec := "landmarkBefore", unfollowed := true, recurses := true, apart := false }
def LandmarkBeforeSaid : Prop := landmarkBeforeRow.holds Try.pinned (OpenSpec.ofChange landmarkBeforeSpec)

/-- ITS FALSE NEIGHBOUR: 'it returns false'. Refute it at one input. -/
def landmarkBeforeWrong : ChangeSpec := { name := "landmarkBefore", fn := fun _ => fun
  | [d1, d2, d3] => { results := [.lit (.bool false)], args := [d1, d2, d3] }
  | _ => none }
def LandmarkBeforeWrongFalsely : Prop := landmarkBeforeRow.holds Try.pinned (OpenSpec.ofChange landmarkBeforeWrong)

/-- 'stratagemlaw36.LandmarkOrders': WHATEVER THE INPUT: true; the input reads as it did. -/
def landmarkOrdersSpec : ChangeSpec := { name := "landmarkOrders", fn := fun _ => fun
  | [d1, d2] => { results := [.lit (.bool true)], args := [d1, d2] }
  | _ => none }
def landmarkOrdersRow : OpenClaim := { program := "ythhfckjddknmeaa", sum := "f06d256887e8f1382e4c0cd459170eedf36425fd55b4ae18f1160e22575fd752", func := "stratagem/stratagemlaw36.LandmarkOrders", spec := "landmarkOrders", unfollowed := true, recurses := true, apart := false }
def LandmarkOrdersSaid : Prop := landmarkOrdersRow.holds Try.pinned (OpenSpec.ofChange landmarkOrdersSpec)

/-- ITS FALSE NEIGHBOUR: 'it returns false'. Refute it at one input. -/
def landmarkOrdersWrong : ChangeSpec := { name := "landmarkOrders", fn := fun _ => fun
  | [d1, d2] => { results := [.lit (.bool false)], args := [d1, d2] }
  | _ => none }
def LandmarkOrdersWrongFalsely : Prop := landmarkOrdersRow.holds Try.pinned (OpenSpec.ofChange landmarkOrdersWrong)

/-- 'stratagemlaw36.LandmarkAchievers': WHATEVER THE INPUT: true; the input reads as it did. -/
def landmarkAchieversSpec : ChangeSpec := { name := "landmarkAchievers", fn := fun _ => fun
  | [d1, d2, d3] => { results := [.lit (.bool true)], args := [d1, d2, d3] }
  | _ => none }
def landmarkAchieversRow : OpenClaim := { program := "ythhfckjddknmeaa", sum := "f06d256887e8f1382e4c0cd459170eedf36425fd55b4ae18f1160e22575fd752", func := "stratagem/stratagemlaw36.LandmarkAchievers", spec := "landmarkAchievers", unfollowed := true, recurses := true, apart := false }
def LandmarkAchieversSaid : Prop := landmarkAchieversRow.holds Try.pinned (OpenSpec.ofChange landmarkAchieversSpec)

/-- ITS FALSE NEIGHBOUR: 'it returns false'. Refute it at one input. -/
def landmarkAchieversWrong : ChangeSpec := { name := "landmarkAchievers", fn := fun _ => fun
  | [d1, d2, d3] => { results := [.lit (.bool false)], args := [d1, d2, d3] }
  | _ => none }
def LandmarkAchieversWrongFalsely : Prop := landmarkAchieversRow.holds Try.pinned (OpenSpec.ofChange landmarkAchieversWrong)

/-- 'stratagemlaw36.LandmarkCuts': WHATEVER THE INPUT: true; the input reads as it did. -/
def landmarkCutsSpec : ChangeSpec := { name := "landmarkCuts", fn := fun _ => fun
  | [d1, d2] => { results := [.lit (.bool true)], args := [d1, d2] }
  | _ => none }
def landmarkCutsRow : OpenClaim := { program := "ythhfckjddknmeaa", sum := "f06d256887e8f1382e4c0cd459170eedf36425fd55b4ae18f1160e22575fd752", func := "stratagem/stratagemlaw36.LandmarkCuts", spec := "landmarkCuts", unfollowed := true, recurses := true, apart := false }
def LandmarkCutsSaid : Prop := landmarkCutsRow.holds Try.pinned (OpenSpec.ofChange landmarkCutsSpec)

/-- ITS FALSE NEIGHBOUR: 'it returns false'. Refute it at one input. -/
def landmarkCutsWrong : ChangeSpec := { name := "landmarkCuts", fn := fun _ => fun
  | [d1, d2] => { results := [.lit (.bool false)], args := [d1, d2] }
  | _ => none }
def LandmarkCutsWrongFalsely : Prop := landmarkCutsRow.holds Try.pinned (OpenSpec.ofChange landmarkCutsWrong)

/-- 'stratagemlaw36.LandmarkActions': WHATEVER THE INPUT: true; the input reads as it did. -/
def landmarkActionsSpec : ChangeSpec := { name := "landmarkActions", fn := fun _ => fun
  | [d1, d2] => { results := [.lit (.bool true)], args := [d1, d2] }
  | _ => none }
def landmarkActionsRow : OpenClaim := { program := "ythhfckjddknmeaa", sum := "f06d256887e8f1382e4c0cd459170eedf36425fd55b4ae18f1160e22575fd752", func := "stratagem/stratagemlaw36.LandmarkActions", spec := "landmarkActions", unfollowed := true, recurses := true, apart := false }
def LandmarkActionsSaid : Prop := landmarkActionsRow.holds Try.pinned (OpenSpec.ofChange landmarkActionsSpec)

/-- ITS FALSE NEIGHBOUR: 'it returns false'. Refute it at one input. -/
def landmarkActionsWrong : ChangeSpec := { name := "landmarkActions", fn := fun _ => fun
  | [d1, d2] => { results := [.lit (.bool false)], args := [d1, d2] }
  | _ => none }
def LandmarkActionsWrongFalsely : Prop := landmarkActionsRow.holds Try.pinned (OpenSpec.ofChange landmarkActionsWrong)

/- THE SECOND FORM. 'bulk': how many values and letters a reading holds, each counted each time it is reached (what is shared counts as often as it is met; a slice's spare places count too). A statement '..UptoSaid' is the law's where the arguments, and the package variables that the reading takes, are together of bulk at most 1048576: NARROWER than '..Said'. Prove '..Said' where nothing that the law and all that it calls make is longer than what came in: it says more and counts as full. Else prove '..UptoSaid'. A law counts once. -/
mutual
def uptoBulk {H : Type} : DataW H → Nat
  | .lit (.string bytes) => bytes.length + 1
  | .lit _ => 1
  | .nil => 1
  | .ptr d => uptoBulk d + 1
  | .slice elems spare => uptoBulkAll elems + uptoBulkAll spare + 1
  | .agg parts => uptoBulkAll parts + 1
  | .iface _ d => uptoBulk d + 1
  | .map entries => uptoBulkEntries entries + 1
  | .held _ => 1
def uptoBulkAll {H : Type} : List (DataW H) → Nat
  | [] => 0
  | d :: r => uptoBulk d + uptoBulkAll r
def uptoBulkEntries {H : Type} : List (Lit × DataW H) → Nat
  | [] => 0
  | x :: r => uptoBulkEntry x + uptoBulkEntries r
def uptoBulkEntry {H : Type} : Lit × DataW H → Nat
  | (.string bytes, d) => bytes.length + uptoBulk d + 1
  | (_, d) => uptoBulk d + 1
 end
def uptoSmall : (H : Type) → List (DataW H) → Bool := fun _ ds => decide (uptoBulkAll ds ≤ 1048576)
def OpenSpec.upto (s : _root_.Go.ChangeSpec) : _root_.Go.OpenSpec := { _root_.Go.OpenSpec.ofChange s with cond := some uptoSmall }

/-- 'stratagemlaw36.LandmarkBefore', WHERE WHAT IT READS IS OF BULK AT MOST 1048576: true; the input reads as it did. -/
def landmarkBeforeUptoRow : OpenClaim := { program := "ythhfckjddknmeaa", sum := "f06d256887e8f1382e4c0cd459170eedf36425fd55b4ae18f1160e22575fd752", func := "stratagem/stratagemlaw36.LandmarkBefore", spec := "landmarkBefore", unfollowed := true, recurses := true, apart := false, narrowed := true }
def LandmarkBeforeUptoSaid : Prop := landmarkBeforeUptoRow.holds Try.pinned (OpenSpec.upto landmarkBeforeSpec)

/-- 'stratagemlaw36.LandmarkOrders', WHERE WHAT IT READS IS OF BULK AT MOST 1048576: true; the input reads as it did. -/
def landmarkOrdersUptoRow : OpenClaim := { program := "ythhfckjddknmeaa", sum := "f06d256887e8f1382e4c0cd459170eedf36425fd55b4ae18f1160e22575fd752", func := "stratagem/stratagemlaw36.LandmarkOrders", spec := "landmarkOrders", unfollowed := true, recurses := true, apart := false, narrowed := true }
def LandmarkOrdersUptoSaid : Prop := landmarkOrdersUptoRow.holds Try.pinned (OpenSpec.upto landmarkOrdersSpec)

/-- 'stratagemlaw36.LandmarkAchievers', WHERE WHAT IT READS IS OF BULK AT MOST 1048576: true; the input reads as it did. -/
def landmarkAchieversUptoRow : OpenClaim := { program := "ythhfckjddknmeaa", sum := "f06d256887e8f1382e4c0cd459170eedf36425fd55b4ae18f1160e22575fd752", func := "stratagem/stratagemlaw36.LandmarkAchievers", spec := "landmarkAchievers", unfollowed := true, recurses := true, apart := false, narrowed := true }
def LandmarkAchieversUptoSaid : Prop := landmarkAchieversUptoRow.holds Try.pinned (OpenSpec.upto landmarkAchieversSpec)

/-- 'stratagemlaw36.LandmarkCuts', WHERE WHAT IT READS IS OF BULK AT MOST 1048576: true; the input reads as it did. -/
def landmarkCutsUptoRow : OpenClaim := { program := "ythhfckjddknmeaa", sum := "f06d256887e8f1382e4c0cd459170eedf36425fd55b4ae18f1160e22575fd752", func := "stratagem/stratagemlaw36.LandmarkCuts", spec := "landmarkCuts", unfollowed := true, recurses := true, apart := false, narrowed := true }
def LandmarkCutsUptoSaid : Prop := landmarkCutsUptoRow.holds Try.pinned (OpenSpec.upto landmarkCutsSpec)

/-- 'stratagemlaw36.LandmarkActions', WHERE WHAT IT READS IS OF BULK AT MOST 1048576: true; the input reads as it did. -/
def landmarkActionsUptoRow : OpenClaim := { program := "ythhfckjddknmeaa", sum := "f06d256887e8f1382e4c0cd459170eedf36425fd55b4ae18f1160e22575fd752", func := "stratagem/stratagemlaw36.LandmarkActions", spec := "landmarkActions", unfollowed := true, recurses := true, apart := false, narrowed := true }
def LandmarkActionsUptoSaid : Prop := landmarkActionsUptoRow.holds Try.pinned (OpenSpec.upto landmarkActionsSpec)

end Rows
end Go.Proofs.Ythhfckjddknmeaa

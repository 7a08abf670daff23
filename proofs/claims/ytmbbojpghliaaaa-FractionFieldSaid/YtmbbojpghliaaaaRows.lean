/-
  No cell of these rows narrows 'for every input' (looked for: loops, veiled, ifaces, maps, wideKeys, modest, calm, conditions, laid).
  DERIVED. THE GIVEN ROWS OF THIS SEAT. 6 by the template 'for every input the law returns true; each argument reads behind the call as it read before'; 0 by the template 'total and deterministic' (their statements: YtmbbojpghliaaaaTotals.lean).
  GIVEN WITH THE SEED: the statements are not yours to turn. If you find one false, say at which input.
  Laid BY PROGRAM, IN A SANDBOX (cutbox-rows.mjs): the forced cells as the released guide's own fill.sh prints them over the translation d63aced5dc04df94… (all of the seat's roots in one cut). By AI agents, Wed Nov 11 2026. No macro, syntax, notation, axiom, sorry.
-/
import Derived.Test.YtmbbojpghliaaaaChecked
import GoSem.Claim
import GoSem.ClaimJoined
import GoSem.ClaimMapViews
import Derived.JoinedTies
import Derived.KernelRfl
namespace Go.Proofs.Ytmbbojpghliaaaa
/- THE CELL 'sum', in the pinned program and in every row, IS THE sha256 OF THE DUMP (.gsa) THAT YtmbbojpghliaaaaProg.lean LOADS. Nothing in Lean hashes anything: it is a label: what it is worth is what the hold of that sum in a sandbox is worth. -/
noncomputable def Try.pinned : Pinned := { name := "ytmbbojpghliaaaa", sum := "d63aced5dc04df9467e8bb0d1632d66c86619a61de4e42a5e7ec21e8d40feb39", checked := Try.checked }
namespace Rows
def none {H : Type} : Left H := { results := [], args := [] }

/-- 'stratagemlaw02.FractionNew': WHATEVER THE INPUT: true; the input reads as it did. -/
def fractionNewSpec : ChangeSpec := { name := "fractionNew", fn := fun _ => fun
  | [d1, d2] => { results := [.lit (.bool true)], args := [d1, d2] }
  | _ => none }
def fractionNewRow : OpenClaim := { program := "ytmbbojpghliaaaa", sum := "d63aced5dc04df9467e8bb0d1632d66c86619a61de4e42a5e7ec21e8d40feb39", func := "stratagem/stratagemlaw02.FractionNew", spec := "fractionNew", apart := false }
def FractionNewSaid : Prop := fractionNewRow.holds Try.pinned (OpenSpec.ofChange fractionNewSpec)

/-- ITS FALSE NEIGHBOUR: 'it returns false'. Refute it at one input. -/
def fractionNewWrong : ChangeSpec := { name := "fractionNew", fn := fun _ => fun
  | [d1, d2] => { results := [.lit (.bool false)], args := [d1, d2] }
  | _ => none }
def FractionNewWrongFalsely : Prop := fractionNewRow.holds Try.pinned (OpenSpec.ofChange fractionNewWrong)

/-- 'stratagemlaw02.FractionAdds': WHATEVER THE INPUT: true; the input reads as it did. -/
def fractionAddsSpec : ChangeSpec := { name := "fractionAdds", fn := fun _ => fun
  | [d1, d2] => { results := [.lit (.bool true)], args := [d1, d2] }
  | _ => none }
def fractionAddsRow : OpenClaim := { program := "ytmbbojpghliaaaa", sum := "d63aced5dc04df9467e8bb0d1632d66c86619a61de4e42a5e7ec21e8d40feb39", func := "stratagem/stratagemlaw02.FractionAdds", spec := "fractionAdds", apart := false }
def FractionAddsSaid : Prop := fractionAddsRow.holds Try.pinned (OpenSpec.ofChange fractionAddsSpec)

/-- ITS FALSE NEIGHBOUR: 'it returns false'. Refute it at one input. -/
def fractionAddsWrong : ChangeSpec := { name := "fractionAdds", fn := fun _ => fun
  | [d1, d2] => { results := [.lit (.bool false)], args := [d1, d2] }
  | _ => none }
def FractionAddsWrongFalsely : Prop := fractionAddsRow.holds Try.pinned (OpenSpec.ofChange fractionAddsWrong)

/-- 'stratagemlaw02.FractionSums': WHATEVER THE INPUT: true; the input reads as it did. -/
def fractionSumsSpec : ChangeSpec := { name := "fractionSums", fn := fun _ => fun
  | [d1, d2, d3] => { results := [.lit (.bool true)], args := [d1, d2, d3] }
  | _ => none }
def fractionSumsRow : OpenClaim := { program := "ytmbbojpghliaaaa", sum := "d63aced5dc04df9467e8bb0d1632d66c86619a61de4e42a5e7ec21e8d40feb39", func := "stratagem/stratagemlaw02.FractionSums", spec := "fractionSums", apart := false }
def FractionSumsSaid : Prop := fractionSumsRow.holds Try.pinned (OpenSpec.ofChange fractionSumsSpec)

/-- ITS FALSE NEIGHBOUR: 'it returns false'. Refute it at one input. -/
def fractionSumsWrong : ChangeSpec := { name := "fractionSums", fn := fun _ => fun
  | [d1, d2, d3] => { results := [.lit (.bool false)], args := [d1, d2, d3] }
  | _ => none }
def FractionSumsWrongFalsely : Prop := fractionSumsRow.holds Try.pinned (OpenSpec.ofChange fractionSumsWrong)

/-- 'stratagemlaw02.FractionOrder': WHATEVER THE INPUT: true; the input reads as it did. -/
def fractionOrderSpec : ChangeSpec := { name := "fractionOrder", fn := fun _ => fun
  | [d1, d2, d3] => { results := [.lit (.bool true)], args := [d1, d2, d3] }
  | _ => none }
def fractionOrderRow : OpenClaim := { program := "ytmbbojpghliaaaa", sum := "d63aced5dc04df9467e8bb0d1632d66c86619a61de4e42a5e7ec21e8d40feb39", func := "stratagem/stratagemlaw02.FractionOrder", spec := "fractionOrder", apart := false }
def FractionOrderSaid : Prop := fractionOrderRow.holds Try.pinned (OpenSpec.ofChange fractionOrderSpec)

/-- ITS FALSE NEIGHBOUR: 'it returns false'. Refute it at one input. -/
def fractionOrderWrong : ChangeSpec := { name := "fractionOrder", fn := fun _ => fun
  | [d1, d2, d3] => { results := [.lit (.bool false)], args := [d1, d2, d3] }
  | _ => none }
def FractionOrderWrongFalsely : Prop := fractionOrderRow.holds Try.pinned (OpenSpec.ofChange fractionOrderWrong)

/-- 'stratagemlaw02.FractionField': WHATEVER THE INPUT: true; the input reads as it did. -/
def fractionFieldSpec : ChangeSpec := { name := "fractionField", fn := fun _ => fun
  | [d1, d2] => { results := [.lit (.bool true)], args := [d1, d2] }
  | _ => none }
def fractionFieldRow : OpenClaim := { program := "ytmbbojpghliaaaa", sum := "d63aced5dc04df9467e8bb0d1632d66c86619a61de4e42a5e7ec21e8d40feb39", func := "stratagem/stratagemlaw02.FractionField", spec := "fractionField", apart := false }
def FractionFieldSaid : Prop := fractionFieldRow.holds Try.pinned (OpenSpec.ofChange fractionFieldSpec)

/-- ITS FALSE NEIGHBOUR: 'it returns false'. Refute it at one input. -/
def fractionFieldWrong : ChangeSpec := { name := "fractionField", fn := fun _ => fun
  | [d1, d2] => { results := [.lit (.bool false)], args := [d1, d2] }
  | _ => none }
def FractionFieldWrongFalsely : Prop := fractionFieldRow.holds Try.pinned (OpenSpec.ofChange fractionFieldWrong)

/-- 'stratagemlaw02.FractionMuls': WHATEVER THE INPUT: true; the input reads as it did. -/
def fractionMulsSpec : ChangeSpec := { name := "fractionMuls", fn := fun _ => fun
  | [d1, d2] => { results := [.lit (.bool true)], args := [d1, d2] }
  | _ => none }
def fractionMulsRow : OpenClaim := { program := "ytmbbojpghliaaaa", sum := "d63aced5dc04df9467e8bb0d1632d66c86619a61de4e42a5e7ec21e8d40feb39", func := "stratagem/stratagemlaw02.FractionMuls", spec := "fractionMuls", apart := false }
def FractionMulsSaid : Prop := fractionMulsRow.holds Try.pinned (OpenSpec.ofChange fractionMulsSpec)

/-- ITS FALSE NEIGHBOUR: 'it returns false'. Refute it at one input. -/
def fractionMulsWrong : ChangeSpec := { name := "fractionMuls", fn := fun _ => fun
  | [d1, d2] => { results := [.lit (.bool false)], args := [d1, d2] }
  | _ => none }
def FractionMulsWrongFalsely : Prop := fractionMulsRow.holds Try.pinned (OpenSpec.ofChange fractionMulsWrong)

/- THE SECOND FORM. 'bulk': how many values and letters a reading holds, each counted each time it is reached (what is shared counts as often as it is met; a slice's spare places count too). A statement '..UptoSaid' is the law's where the arguments, and the package variables that the reading takes, are together of bulk at most 1048576: NARROWER than '..Said'. Prove '..Said' where nothing that the law and all that it calls make is longer than what came in: it says more and counts as full. Else prove '..UptoSaid'. A law counts once. -/
mutual
def uptoBulk {H : Type} : DataW H → Nat
  | .lit (.string bytes) => bytes.length + 1
  | .lit _ => 1
  | .nil => 1
  | .ptr d => uptoBulk d + 1
  | .slice elems spare => uptoBulkAll elems + uptoBulkAll spare + 1
  | .agg parts => uptoBulkAll parts + 1
  | .iface _ d => uptoBulk d + 1
  | .map entries => uptoBulkEntries entries + 1
  | .held _ => 1
def uptoBulkAll {H : Type} : List (DataW H) → Nat
  | [] => 0
  | d :: r => uptoBulk d + uptoBulkAll r
def uptoBulkEntries {H : Type} : List (Lit × DataW H) → Nat
  | [] => 0
  | x :: r => uptoBulkEntry x + uptoBulkEntries r
def uptoBulkEntry {H : Type} : Lit × DataW H → Nat
  | (.string bytes, d) => bytes.length + uptoBulk d + 1
  | (_, d) => uptoBulk d + 1
 end
def uptoSmall : (H : Type) → List (DataW H) → Bool := fun _ ds => decide (uptoBulkAll ds ≤ 1048576)
def OpenSpec.upto (s : _root_.Go.ChangeSpec) : _root_.Go.OpenSpec := { _root_.Go.OpenSpec.ofChange s with cond := some uptoSmall }

/-- 'stratagemlaw02.FractionNew', WHERE WHAT IT READS IS OF BULK AT MOST 1048576: true; the input reads as it did. -/
def fractionNewUptoRow : OpenClaim := { program := "ytmbbojpghliaaaa", sum := "d63aced5dc04df9467e8bb0d1632d66c86619a61de4e42a5e7ec21e8d40feb39", func := "stratagem/stratagemlaw02.FractionNew", spec := "fractionNew", apart := false, narrowed := true }
def FractionNewUptoSaid : Prop := fractionNewUptoRow.holds Try.pinned (OpenSpec.upto fractionNewSpec)

/-- 'stratagemlaw02.FractionAdds', WHERE WHAT IT READS IS OF BULK AT MOST 1048576: true; the input reads as it did. -/
def fractionAddsUptoRow : OpenClaim := { program := "ytmbbojpghliaaaa", sum := "d63aced5dc04df9467e8bb0d1632d66c86619a61de4e42a5e7ec21e8d40feb39", func := "stratagem/stratagemlaw02.FractionAdds", spec := "fractionAdds", apart := false, narrowed := true }
def FractionAddsUptoSaid : Prop := fractionAddsUptoRow.holds Try.pinned (OpenSpec.upto fractionAddsSpec)

/-- 'stratagemlaw02.FractionSums', WHERE WHAT IT READS IS OF BULK AT MOST 1048576: true; the input reads as it did. -/
def fractionSumsUptoRow : OpenClaim := { program := "ytmbbojpghliaaaa", sum := "d63aced5dc04df9467e8bb0d1632d66c86619a61de4e42a5e7ec21e8d40feb39", func := "stratagem/stratagemlaw02.FractionSums", spec := "fractionSums", apart := false, narrowed := true }
def FractionSumsUptoSaid : Prop := fractionSumsUptoRow.holds Try.pinned (OpenSpec.upto fractionSumsSpec)

/-- 'stratagemlaw02.FractionOrder', WHERE WHAT IT READS IS OF BULK AT MOST 1048576: true; the input reads as it did. -/
def fractionOrderUptoRow : OpenClaim := { program := "ytmbbojpghliaaaa", sum := "d63aced5dc04df9467e8bb0d1632d66c86619a61de4e42a5e7ec21e8d40feb39", func := "stratagem/stratagemlaw02.FractionOrder", spec := "fractionOrder", apart := false, narrowed := true }
def FractionOrderUptoSaid : Prop := fractionOrderUptoRow.holds Try.pinned (OpenSpec.upto fractionOrderSpec)

/-- 'stratagemlaw02.FractionField', WHERE WHAT IT READS IS OF BULK AT MOST 1048576: true; the input reads as it did. -/
def fractionFieldUptoRow : OpenClaim := { program := "ytmbbojpghliaaaa", sum := "d63aced5dc04df9467e8bb0d1632d66c86619a61de4e42a5e7ec21e8d40feb39", func := "stratagem/stratagemlaw02.FractionField", spec := "fractionField", apart := false, narrowed := true }
def FractionFieldUptoSaid : Prop := fractionFieldUptoRow.holds Try.pinned (OpenSpec.upto fractionFieldSpec)

/-- 'stratagemlaw02.FractionMuls', WHERE WHAT IT READS IS OF BULK AT MOST 1048576: true; the input reads as it did. -/
def fractionMulsUptoRow : OpenClaim := { program := "ytmbbojpghliaaaa", sum := "d63aced5dc04df9467e8bb0d1632d66c86619a61de4e42a5e7ec21e8d40feb39", func := "stratagem/stratagemlaw02.FractionMuls", spec := "fractionMuls", apart := false, narrowed := true }
def FractionMulsUptoSaid : Prop := fractionMulsUptoRow.holds Try.pinned (OpenSpec.upto fractionMulsSpec)

end Rows
end Go.Proofs.Ytmbbojpghliaaaa

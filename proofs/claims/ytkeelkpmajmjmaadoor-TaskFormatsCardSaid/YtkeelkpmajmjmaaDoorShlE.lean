/- What listed variables give the walks; strconv.Itoa, strconv.Atoi, strings.Cut. -/
import Derived.Test.YtkeelkpmajmjmaaDoorShl
import Derived.Test.YtkeelkpmajmjmaaDoorOpenG
import Derived.Lib.AppendIntMem
import Derived.Lib.AtoiErrMem
import Derived.Lib.LaidTab
import Derived.Lib.ItoaLen
import Derived.Stop.LaidErr
namespace Go.Proofs.YtkeelkpmajmjmaaDoor
set_option linter.unusedSimpArgs false
set_option linter.unusedVariables false
open Go Go.RowKit Go.Lib
set_option linter.unusedVariables false

/-- The table of powers of ten; the longest needle; the two errors of strconv. -/
structure EnvT (w : World) : Prop where
  tab : TabIs Tryd.prog w "internal/strconv.uint64pow10" .u64 pow10Tab
theorem EnvT.up {w w' : World} (h : EnvT w) (hb : Below w.heap.size w w') : EnvT w' := ⟨tabBelow_of_tabIs h.tab w' hb⟩
/-- A numeral's bytes; what stands before a mark, behind it, and whether it is there. -/
def itB (n : Int) : ByteArray := ⟨(itoa n).toArray⟩
theorem itoa_any (n : Int) (w : World) (h0 : -9223372036854775808 ≤ n) (h1 : n ≤ 9223372036854775807) (hE : EnvT w) :
    Calls Tryd.prog 17 #[.int .i64 n] w fun e w' => e = .returned (.string (itB n)) ∧ Below w.heap.size w w' :=
  (Tryd.strconv_Itoa n h0 h1 w hE.tab).mono fun e w' ⟨he, k, os, hw⟩ => ⟨he, by rw [hw]; exact below_grow _ _ (Nat.le_refl _) _ _⟩
theorem itB_size (n : Int) (h0 : -9223372036854775808 ≤ n) (h1 : n ≤ 9223372036854775807) : (itB n).size ≤ 21 := by
  have h := itoa_length_le n h0 h1
  show (itoa n).toArray.size ≤ 21
  rw [List.size_toArray]; exact h
end Go.Proofs.YtkeelkpmajmjmaaDoor

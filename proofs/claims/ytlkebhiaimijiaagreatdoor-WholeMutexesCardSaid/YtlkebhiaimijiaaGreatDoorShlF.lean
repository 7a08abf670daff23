/- What listed variables give the walks; strconv.Itoa, strings.Cut (without Atoi). -/
import Derived.Test.YtlkebhiaimijiaaGreatDoorNgQ
import Derived.Lib.AppendIntMem
import Derived.Lib.LaidTab
import Derived.Lib.ItoaLen
namespace Go.Proofs.YtlkebhiaimijiaaGreatDoor
set_option linter.unusedSimpArgs false
set_option linter.unusedVariables false
open Go Go.RowKit Go.Lib
set_option linter.unusedVariables false

/-- The table of powers of ten; the longest needle; the two errors of strconv. -/
structure EnvT (w : World) : Prop where
 tab : TabIs Tryz.prog w "internal/strconv.uint64pow10" .u64 pow10Tab
structure EnvM (w : World) : Prop where
 max : ∃ m, w.cell? ⟨1, 0, none⟩ = some (.int .i64 m)
theorem EnvT.up {w w' : World} (h : EnvT w) (hb : Below w.heap.size w w') : EnvT w' := ⟨tabBelow_of_tabIs h.tab w' hb⟩
theorem EnvM.up {w w' : World} (h : EnvM w) (hb : Below w.heap.size w w') : EnvM w' := by
 obtain ⟨m, h⟩ := h.max
 exact ⟨m, (hb.cell (cell_lt h)).trans h⟩

/-- A numeral's bytes; what stands before a mark, behind it, and whether it is there. -/
def itB (n : Int) : ByteArray := ⟨(itoa n).toArray⟩
def cutA (s p : ByteArray) : ByteArray := ⟨(cut s.data.toList p.data.toList).1.toArray⟩
def cutB (s p : ByteArray) : ByteArray := ⟨(cut s.data.toList p.data.toList).2.1.toArray⟩
def cutC (s p : ByteArray) : Bool := (cut s.data.toList p.data.toList).2.2
theorem itoa_any (n : Int) (w : World) (h0 : -9223372036854775808 ≤ n) (h1 : n ≤ 9223372036854775807) (hE : EnvT w) :
  Calls Tryz.prog 44 #[.int .i64 n] w fun e w' => e = .returned (.string (itB n)) ∧ Below w.heap.size w w' :=
 (Tryz.strconv_Itoa n h0 h1 w hE.tab).mono fun e w' ⟨he, k, os, hw⟩ => ⟨he, by rw [hw]; exact below_grow _ _ (Nat.le_refl _) _ _⟩
theorem cut_any (s p : ByteArray) (w : World) (hs : s.size < 4294967281) (hE : EnvM w) :
  Calls Tryz.prog 85 #[.string s, .string p] w fun e w' => e = .returned (.tuple #[.string (cutA s p), .string (cutB s p), .bool (cutC s p)]) ∧ Below w.heap.size w w' := by
 obtain ⟨m, hm⟩ := hE.max
 exact (Tryz.strings_Cut s p m w hs hm).mono fun e w' ⟨he, n, hw⟩ => ⟨he, by rw [hw]; exact below_dN (Below.refl _ _) n⟩
theorem itB_size (n : Int) (h0 : -9223372036854775808 ≤ n) (h1 : n ≤ 9223372036854775807) : (itB n).size ≤ 21 := by
 have h := itoa_length_le n h0 h1
 show (itoa n).toArray.size ≤ 21
 rw [List.size_toArray]; exact h
end Go.Proofs.YtlkebhiaimijiaaGreatDoor

/- What listed variables give the walks; strconv.Itoa, strconv.Atoi, strings.Cut. -/
import Derived.Test.YtmdkchoepcjahaaDoorShl
import Derived.Test.YtmdkchoepcjahaaDoorOpenG
import Derived.Lib.AppendIntMem
import Derived.Lib.AtoiErrMem
import Derived.Lib.LaidTab
import Derived.Lib.ItoaLen
import Derived.Stop.LaidErr
namespace Go.Proofs.YtmdkchoepcjahaaDoor
set_option linter.unusedSimpArgs false
set_option linter.unusedVariables false
open Go Go.RowKit Go.Lib
set_option linter.unusedVariables false

/-- The table of powers of ten; the longest needle; the two errors of strconv. -/
structure EnvT (w : World) : Prop where
  tab : TabIs Tryd.prog w "internal/strconv.uint64pow10" .u64 pow10Tab
structure EnvM (w : World) : Prop where
  max : ∃ m, w.cell? ⟨0, 0, none⟩ = some (.int .i64 m)
structure EnvA (w : World) : Prop where
  syn : ∃ te pe, w.cell? ⟨1, 0, none⟩ = some (.iface te pe)
  rng : ∃ te pe, w.cell? ⟨2, 0, none⟩ = some (.iface te pe)
theorem EnvT.up {w w' : World} (h : EnvT w) (hb : Below w.heap.size w w') : EnvT w' := ⟨tabBelow_of_tabIs h.tab w' hb⟩
theorem EnvM.up {w w' : World} (h : EnvM w) (hb : Below w.heap.size w w') : EnvM w' := by
  obtain ⟨m, h⟩ := h.max
  exact ⟨m, (hb.cell (cell_lt h)).trans h⟩
theorem EnvA.up {w w' : World} (h : EnvA w) (hb : Below w.heap.size w w') : EnvA w' := by
  obtain ⟨⟨t1, p1, h1⟩, t2, p2, h2⟩ := h
  exact ⟨⟨t1, p1, (hb.cell (cell_lt h1)).trans h1⟩, t2, p2, (hb.cell (cell_lt h2)).trans h2⟩

/-- A numeral's bytes; what stands before a mark, behind it, and whether it is there. -/
def itB (n : Int) : ByteArray := ⟨(itoa n).toArray⟩
def cutA (s p : ByteArray) : ByteArray := ⟨(cut s.data.toList p.data.toList).1.toArray⟩
def cutB (s p : ByteArray) : ByteArray := ⟨(cut s.data.toList p.data.toList).2.1.toArray⟩
def cutC (s p : ByteArray) : Bool := (cut s.data.toList p.data.toList).2.2
theorem itoa_any (n : Int) (w : World) (h0 : -9223372036854775808 ≤ n) (h1 : n ≤ 9223372036854775807) (hE : EnvT w) :
    Calls Tryd.prog 26 #[.int .i64 n] w fun e w' => e = .returned (.string (itB n)) ∧ Below w.heap.size w w' :=
  (Tryd.strconv_Itoa n h0 h1 w hE.tab).mono fun e w' ⟨he, k, os, hw⟩ => ⟨he, by rw [hw]; exact below_grow _ _ (Nat.le_refl _) _ _⟩
theorem cut_any (s p : ByteArray) (w : World) (hs : s.size < 4294967281) (hE : EnvM w) :
    Calls Tryd.prog 29 #[.string s, .string p] w fun e w' => e = .returned (.tuple #[.string (cutA s p), .string (cutB s p), .bool (cutC s p)]) ∧ Below w.heap.size w w' := by
  obtain ⟨m, hm⟩ := hE.max
  exact (Tryd.strings_Cut s p m w hs hm).mono fun e w' ⟨he, n, hw⟩ => ⟨he, by rw [hw]; exact below_dN (Below.refl _ _) n⟩
theorem atoi_ok (s : ByteArray) (v : Int) (w : World) (hs : s.size ≤ 281474976710656) (h : atoiAll s.data.toList = .ok v) :
    Calls Tryd.prog 30 #[.string s] w fun e w' => e = .returned (.tuple #[.int .i64 v, .nilIface]) ∧ Below w.heap.size w w' :=
  (Tryd.strconv_Atoi_ok s (by omega) v h w).mono fun e w' ⟨he, hw⟩ => ⟨he, by
    rcases hw with rfl | ⟨t, rfl⟩
    · exact Below.refl _ _
    · exact bytesWorld_below _ _ _⟩
theorem atoi_bad (s : ByteArray) (w : World) (hs : s.size ≤ 281474976710656) (h : ∀ v, atoiAll s.data.toList ≠ .ok v) (hE : EnvA w) :
    Calls Tryd.prog 30 #[.string s] w fun e w' => (∃ x te pe, e = .returned (.tuple #[.int .i64 x, .iface te pe])) ∧ Below w.heap.size w w' := by
  obtain ⟨⟨t1, p1, h1⟩, t2, p2, h2⟩ := hE
  cases e : atoiAll s.data.toList with
  | ok v => exact absurd e (h v)
  | «syntax» => exact (Tryd.strconv_Atoi_syntax s hs e _ w h1 (.inr ⟨_, _, rfl⟩)).mono fun e w' ⟨N, he, _, _, hb⟩ => ⟨⟨_, _, _, he⟩, hb⟩
  | range => exact (Tryd.strconv_Atoi_range s hs e _ w h2 (.inr ⟨_, _, rfl⟩)).mono fun e w' ⟨N, he, _, _, hb⟩ => ⟨⟨_, _, _, he⟩, hb⟩
theorem itB_size (n : Int) (h0 : -9223372036854775808 ≤ n) (h1 : n ≤ 9223372036854775807) : (itB n).size ≤ 21 := by
  have h := itoa_length_le n h0 h1
  show (itoa n).toArray.size ≤ 21
  rw [List.size_toArray]; exact h
end Go.Proofs.YtmdkchoepcjahaaDoor

/- Rows of Booleans: slices.Index, slices.Contains, slices.Equal. -/
import Derived.Test.YtaampjhdgeoicaaGreatMfA
import Derived.Test.YtaampjhdgeoicaaGreatPartH
import Derived.Test.YtaampjhdgeoicaaGreatMvC
namespace Go.Proofs.YtaampjhdgeoicaaGreat
set_option linter.unusedSimpArgs false
set_option linter.unusedVariables false
open Go Go.RowKit
set_option linter.unusedVariables false

def BlRow (w : World) (b n : Nat) (f : Nat → Bool) : Prop := rowGe w b 4 n (fun i => .bool (f i))
section
variable {w w' : World} {b n : Nat} {f g : Nat → Bool}
theorem BlRow.up (h : BlRow w b n f) (hb : Below w.heap.size w w') : BlRow w' b n f := rowGe.up h hb
theorem BlRow.at_ (h : BlRow w b n f) (hb : Below w.heap.size w w') {k : Nat} (hk : k < n) : w'.cell? ⟨b, k, none⟩ = some (.bool (f k)) := rowGe.cell (rowGe.up h hb) hk
theorem BlRow.lt (h : BlRow w b n f) : b < w.heap.size := rowGe.lt h
end

set_option maxRecDepth 4000 in
set_option maxHeartbeats 1000000 in
theorem indexb_any (b n : Nat) (f : Nat → Bool) (w : World) (h : BlRow w b n f) (hn : n ≤ 1000000) :
  Calls Tryz.prog 111 #[.slice (some ⟨b, 0, none⟩) n n, .bool true] w fun e w' => (∃ i, e = .returned (.int .i64 i) ∧ decide (0 ≤ i) = anyB n f) ∧ Below w.heap.size w w' := by
 have hlt := h.lt
 go_enter Tryz.func111, Tryz.ntmps111
 go_wp2
 go_loopw [8] (fun i wr => ∃ k : Nat, k ≤ n ∧ i = .int .i64 k ∧ Hid (anyB k f = false) ∧ Below w.heap.size w wr) (fun i _ => n - (intOf i).toNat)
 case atStart => exact ⟨0, by omega, rfl, rfl, Below.refl _ _⟩
 case round =>
  obtain ⟨k, hk, rfl, HB, hbel⟩ := hrel
  by_cases hltk : k < n
  ·have d1 := h.at_ hbel hltk
   have hbz := hbel.size
   have g1 : b < wr.heap.size := by omega
   have x0 : (0 : Int) ≤ (k : Int) := by omega
   have x1 : (k : Int) < (n : Int) := by omega
   cases q1 : f k
   ·rw [q1] at d1
    have Hs := Lib.hid (show anyB (k + 1) f = false by rw [anyB_succ, HB.out, q1]; rfl)
    clear q1
    go_wp2
    go_roundw
    case rel => exact ⟨k + 1, by omega, by go_num, Hs.out, hbel⟩
    case measure => simp [intOf]; omega
   ·rw [q1] at d1
    have He := Lib.hid (show anyB n f = true from anyB_true.2 ⟨k, hltk, q1⟩)
    clear q1
    go_wp2
    go_ret
    exact ⟨⟨_, rfl, by rw [He.out]; simp⟩, hbel⟩
  ·obtain rfl : k = n := by omega
   go_wp2
   go_ret
   exact ⟨⟨_, rfl, by rw [HB.out]; rfl⟩, hbel⟩

set_option maxHeartbeats 1000000 in
theorem containsb_any (b n : Nat) (f : Nat → Bool) (w : World) (h : BlRow w b n f) (hn : n ≤ 1000000) :
  Calls Tryz.prog 93 #[.slice (some ⟨b, 0, none⟩) n n, .bool true] w fun e w' => e = .returned (.bool (anyB n f)) ∧ Below w.heap.size w w' := by
 have k1 := fun w1 (hb : Below w.heap.size w w1) => indexb_any b n f w1 (h.up hb) hn
 go_enter Tryz.func93, Tryz.ntmps93
 go_wp2_with fail
 refine (k1 _ (by exact bel)).mono ?_
 rintro e w1 ⟨⟨i, rfl, hi⟩, hb1⟩
 have Hi := Lib.hid hi
 clear hi
 go_wp2
 go_ret
 exact ⟨bool_ret Hi.out, by exact bel⟩

/-- Two rows differ at i. -/
def neB (f g : Nat → Bool) (i : Nat) : Bool := f i != g i
set_option maxRecDepth 4000 in
set_option maxHeartbeats 1000000 in
theorem equalb_any (b1 b2 n : Nat) (f g : Nat → Bool) (w : World) (h1 : BlRow w b1 n f) (h2 : BlRow w b2 n g) (hn : n ≤ 1000000) :
  Calls Tryz.prog 94 #[.slice (some ⟨b1, 0, none⟩) n n, .slice (some ⟨b2, 0, none⟩) n n] w fun e w' => e = .returned (.bool (!anyB n (neB f g))) ∧ Below w.heap.size w w' := by
 have hl1 := h1.lt
 have hl2 := h2.lt
 go_enter Tryz.func94, Tryz.ntmps94
 go_wp2
 go_loopw [13] (fun i wr => ∃ k : Nat, k ≤ n ∧ i = .int .i64 k ∧ Hid (anyB k (neB f g) = false) ∧ Below w.heap.size w wr) (fun i _ => n - (intOf i).toNat)
 case atStart => exact ⟨0, by omega, rfl, rfl, Below.refl _ _⟩
 case round =>
  obtain ⟨k, hk, rfl, HB, hbel⟩ := hrel
  by_cases hltk : k < n
  ·have d1 := h1.at_ hbel hltk
   have d2 := h2.at_ hbel hltk
   have hbz := hbel.size
   have g1 : b1 < wr.heap.size := by omega
   have g2 : b2 < wr.heap.size := by omega
   have x0 : (0 : Int) ≤ (k : Int) := by omega
   have x1 : (k : Int) < (n : Int) := by omega
   have HN : Hid (neB f g k = (f k != g k)) := Lib.hid rfl
   obtain ⟨x, hx⟩ : ∃ x, x = f k := ⟨_, rfl⟩
   obtain ⟨y, hy⟩ : ∃ y, y = g k := ⟨_, rfl⟩
   rw [← hx] at d1 HN
   rw [← hy] at d2 HN
   clear hx hy
   cases x <;> cases y
   case' false.false => have hq := Lib.hid (show neB f g k = false from HN.out)
   case' true.true => have hq := Lib.hid (show neB f g k = false from HN.out)
   case' false.true => have hq := Lib.hid (show neB f g k = true from HN.out)
   case' true.false => have hq := Lib.hid (show neB f g k = true from HN.out)
   case false.false | true.true =>
    have Hs := Lib.hid (show anyB (k + 1) (neB f g) = false by rw [anyB_succ, HB.out, hq.out]; rfl)
    go_wp2_with fail
    go_quiet (fail)
    go_wp2
    go_roundw
    case rel => exact ⟨k + 1, by omega, by go_num, Hs.out, by exact bel⟩
    case measure => simp [intOf]; omega
   case false.true | true.false =>
    have He := Lib.hid (show false = !anyB n (neB f g) by rw [anyB_true.2 ⟨k, hltk, hq.out⟩]; rfl)
    go_wp2_with fail
    go_quiet (fail)
    go_wp2
    go_ret
    exact ⟨by rw [← He.out]; rfl, by exact bel⟩
  ·obtain rfl : k = n := by omega
   have He := Lib.hid (show true = !anyB k (neB f g) by rw [HB.out]; rfl)
   go_wp2
   go_ret
   exact ⟨by rw [← He.out]; rfl, hbel⟩

end Go.Proofs.YtaampjhdgeoicaaGreat

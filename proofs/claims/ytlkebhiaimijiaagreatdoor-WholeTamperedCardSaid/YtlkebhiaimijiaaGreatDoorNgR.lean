/- Texts laid together: ShlF, TpA. -/
import Derived.Test.YtlkebhiaimijiaaGreatDoorNgQ
import Derived.Lib.AppendIntMem
import Derived.Lib.LaidTab
import Derived.Lib.ItoaLen
import Derived.Lib.Split
namespace Go.Proofs.YtlkebhiaimijiaaGreatDoor
set_option linter.unusedSimpArgs false
set_option linter.unusedVariables false
section
open Go Go.RowKit Go.Lib
set_option linter.unusedVariables false

/-- The table of powers of ten; the longest needle; the two errors of strconv. -/
structure EnvT (w : World) : Prop where
  tab : TabIs Tryz.prog w "internal/strconv.uint64pow10" .u64 pow10Tab
structure EnvM (w : World) : Prop where
  max : ∃ m, w.cell? ⟨1, 0, none⟩ = some (.int .i64 m)
theorem EnvT.up {w w' : World} (h : EnvT w) (hb : Below w.heap.size w w') : EnvT w' := ⟨tabBelow_of_tabIs h.tab w' hb⟩
theorem EnvM.up {w w' : World} (h : EnvM w) (hb : Below w.heap.size w w') : EnvM w' := by
  obtain ⟨m, h⟩ := h.max
  exact ⟨m, (hb.cell (cell_lt h)).trans h⟩

/-- A numeral's bytes; what stands before a mark, behind it, and whether it is there. -/
def itB (n : Int) : ByteArray := ⟨(itoa n).toArray⟩
def cutA (s p : ByteArray) : ByteArray := ⟨(cut s.data.toList p.data.toList).1.toArray⟩
def cutB (s p : ByteArray) : ByteArray := ⟨(cut s.data.toList p.data.toList).2.1.toArray⟩
def cutC (s p : ByteArray) : Bool := (cut s.data.toList p.data.toList).2.2
theorem itoa_any (n : Int) (w : World) (h0 : -9223372036854775808 ≤ n) (h1 : n ≤ 9223372036854775807) (hE : EnvT w) :
    Calls Tryz.prog 44 #[.int .i64 n] w fun e w' => e = .returned (.string (itB n)) ∧ Below w.heap.size w w' :=
  (Tryz.strconv_Itoa n h0 h1 w hE.tab).mono fun e w' ⟨he, k, os, hw⟩ => ⟨he, by rw [hw]; exact below_grow _ _ (Nat.le_refl _) _ _⟩
theorem cut_any (s p : ByteArray) (w : World) (hs : s.size < 4294967281) (hE : EnvM w) :
    Calls Tryz.prog 85 #[.string s, .string p] w fun e w' => e = .returned (.tuple #[.string (cutA s p), .string (cutB s p), .bool (cutC s p)]) ∧ Below w.heap.size w w' := by
  obtain ⟨m, hm⟩ := hE.max
  exact (Tryz.strings_Cut s p m w hs hm).mono fun e w' ⟨he, n, hw⟩ => ⟨he, by rw [hw]; exact below_dN (Below.refl _ _) n⟩
theorem itB_size (n : Int) (h0 : -9223372036854775808 ≤ n) (h1 : n ≤ 9223372036854775807) : (itB n).size ≤ 21 := by
  have h := itoa_length_le n h0 h1
  show (itoa n).toArray.size ≤ 21
  rw [List.size_toArray]; exact h
end

section
open Go Go.Lib
set_option linter.unusedVariables false

theorem ix_no {c : UInt8} (a : List UInt8) (h : c ∉ a) : index a [c] = -1 := by
  induction a with
  | nil => rfl
  | cons x r ih =>
    have hc : ¬ c = x := fun e => h (by simp [e])
    unfold index
    rw [ih (fun hr => h (by simp [hr]))]
    simp [List.isPrefixOf, hc]
theorem ix_at {c : UInt8} (a b : List UInt8) (h : c ∉ a) : index (a ++ c :: b) [c] = a.length := by
  induction a with
  | nil => simp [index, List.isPrefixOf]
  | cons x r ih =>
    have hc : ¬ c = x := fun e => h (by simp [e])
    have e := ih (fun hr => h (by simp [hr]))
    rw [List.cons_append]
    unfold index
    rw [e]
    have : ¬ ((r.length : Int) = -1) := by omega
    simp [List.isPrefixOf, hc, this]
theorem ct_no {c : UInt8} (a : List UInt8) (h : c ∉ a) : cut a [c] = (a, [], false) := by
  unfold cut; rw [ix_no a h, if_neg (by decide)]
theorem ct_at {c : UInt8} (a b : List UInt8) (h : c ∉ a) : cut (a ++ c :: b) [c] = (a, b, true) := by
  unfold cut; rw [ix_at a b h, if_pos (by omega)]
  simp
/-- The pieces between the bytes c: one more than there are. -/
def pcs (c : UInt8) : List UInt8 → List (List UInt8)
  | [] => [[]]
  | x :: s => if x = c then [] :: pcs c s else ((x :: (pcs c s).headD []) :: (pcs c s).tail)
theorem pcs_ne (c : UInt8) (s : List UInt8) : pcs c s ≠ [] := by
  cases s with
  | nil => simp [pcs]
  | cons x s => unfold pcs; split <;> simp
theorem pcs_no {c : UInt8} : ∀ (a : List UInt8), c ∉ a → pcs c a = [a]
  | [], _ => rfl
  | x :: a, h => by
    have h1 : ¬ x = c := fun e => h (by simp [e])
    unfold pcs
    rw [if_neg h1, pcs_no a (fun e => h (by simp [e]))]
    rfl
theorem pcs_at {c : UInt8} : ∀ (a b : List UInt8), c ∉ a → pcs c (a ++ c :: b) = a :: pcs c b
  | [], b, _ => by rw [List.nil_append, pcs, if_pos rfl]
  | x :: a, b, h => by
    have h1 : ¬ x = c := fun e => h (by simp [e])
    rw [List.cons_append, pcs, if_neg h1, pcs_at a b (fun e => h (by simp [e]))]
    rfl
/-- A text has the byte or not. -/
theorem at_or (c : UInt8) : ∀ (s : List UInt8), c ∉ s ∨ ∃ a b, s = a ++ c :: b ∧ c ∉ a
  | [] => .inl (by simp)
  | x :: s => by
    by_cases h : x = c
    · exact .inr ⟨[], s, by rw [h]; rfl, by simp⟩
    · rcases at_or c s with h1 | ⟨a, b, rfl, h1⟩
      · exact .inl (by simp [h1]; exact fun e => h e.symm)
      · exact .inr ⟨x :: a, b, rfl, by simp [h1]; exact fun e => h e.symm⟩
theorem split_pcs (c : UInt8) : ∀ (n : Nat) (s : List UInt8), s.length ≤ n → splitK [c] 0 (count s [c]) s = pcs c s ∧ (pcs c s).length = count s [c] + 1 := by
  intro n
  induction n with
  | zero =>
    intro s hs
    obtain rfl : s = [] := List.eq_nil_of_length_eq_zero (by omega)
    rw [count_miss (ix_no [] (by simp))]
    exact ⟨rfl, rfl⟩
  | succ n ih =>
    intro s hs
    rcases at_or c s with h | ⟨a, b, rfl, h⟩
    · rw [count_miss (ix_no s h), pcs_no s h]
      exact ⟨rfl, rfl⟩
    · have h1 := ix_at a b h
      have h2 := count_hit (s := a ++ c :: b) (sub := [c]) (by simp) h1
      have e1 : (a ++ c :: b).drop (a.length + [c].length) = b := by simp
      rw [e1] at h2
      obtain ⟨h3, h4⟩ := ih b (by simp at hs; omega)
      rw [pcs_at a b h, h2]
      refine ⟨?_, by rw [List.length_cons, h4]; omega⟩
      rw [show 1 + count b [c] = count b [c] + 1 by omega]
      unfold splitK
      rw [h1, if_neg (by simp)]
      have e2 : ((a.length : Int).toNat + [c].length) = a.length + [c].length := by simp
      rw [e2, e1, h3]
      simp
/-- What strings.Split hands out. -/
theorem splitB_pcs (c : UInt8) (s : ByteArray) : (splitB ⟨#[c]⟩ 0 (countB s ⟨#[c]⟩) s).map (·.data.toList) = pcs c s.data.toList := by
  rw [splitB_data]
  exact (split_pcs c _ _ (Nat.le_refl _)).1
theorem countB_pcs (c : UInt8) (s : ByteArray) : countB s ⟨#[c]⟩ + 1 = (pcs c s.data.toList).length :=
  (split_pcs c _ s.data.toList (Nat.le_refl _)).2.symm
/-- Pieces put together again. -/
def joinP (c : UInt8) : List (List UInt8) → List UInt8
  | [] => []
  | [p] => p
  | p :: q :: r => p ++ c :: joinP c (q :: r)
theorem pcs_join {c : UInt8} : ∀ (l : List (List UInt8)), l ≠ [] → (∀ p ∈ l, c ∉ p) → pcs c (joinP c l) = l
  | [], h, _ => absurd rfl h
  | [p], _, h => pcs_no p (h p (by simp))
  | p :: q :: r, _, h => by
    rw [joinP, pcs_at p _ (h p (by simp)), pcs_join (q :: r) (by simp) (fun x hx => h x (by simp [hx]))]
theorem join_pcs {c : UInt8} : ∀ (n : Nat) (s : List UInt8), s.length ≤ n → joinP c (pcs c s) = s := by
  intro n
  induction n with
  | zero =>
    intro s hs
    obtain rfl : s = [] := List.eq_nil_of_length_eq_zero (by omega)
    rfl
  | succ n ih =>
    intro s hs
    rcases at_or c s with h | ⟨a, b, rfl, h⟩
    · rw [pcs_no s h]; rfl
    · rw [pcs_at a b h]
      have h3 := ih b (by simp at hs; omega)
      cases e : pcs c b with
      | nil => exact absurd e (pcs_ne c b)
      | cons q r => rw [joinP, ← e, h3]
end

end Go.Proofs.YtlkebhiaimijiaaGreatDoor

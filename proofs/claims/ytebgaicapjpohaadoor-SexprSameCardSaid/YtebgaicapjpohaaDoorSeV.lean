/- sexpr: token. -/
import Derived.Test.YtebgaicapjpohaaDoorSeR
import Derived.Test.YtebgaicapjpohaaDoorSeU
namespace Go.Proofs.YtebgaicapjpohaaDoor
set_option linter.unusedSimpArgs false
set_option linter.unusedVariables false
open Go Go.RowKit
set_option linter.unusedVariables false

/-- An error code as a result. -/
def erV (c : Int) : Value := if c = 0 then .nilIface else .iface 41 (.int .i64 c)
theorem erV_0 : erV 0 = .nilIface := rfl
theorem erV_ne {c : Int} (h : c ≠ 0) : erV c = .iface 41 (.int .i64 c) := by unfold erV; rw [if_neg h]
theorem idx_par (c : UInt8) (w : World) : Calls Tryd.prog 26 #[.string ⟨#[40, 41, 59]⟩, .int .u8 (c.toNat : Int)] w fun e w' => (∃ m : Int, e = .returned (.int .i64 m) ∧ (m < 0 ↔ ¬ (c == 40 || c == 41 || c == 59) = true)) ∧ w' = w :=
  (Tryd.strings_IndexByte ⟨#[40, 41, 59]⟩ (c.toNat : Int) w).mono fun e w' ⟨h1, h2⟩ => ⟨⟨_, h1, by
    have h := Lib.contains_iff_indexByte [40, 41, 59] c
    have e : ((c.toNat : Int).toNat).toUInt8 = c := by simp
    rw [e]
    have e2 : (c == 40 || c == 41 || c == 59) = ([40, 41, 59] : List UInt8).contains c := by
      simp only [List.contains, List.elem]
      cases c == 40 <;> cases c == 41 <;> cases c == 59 <;> rfl
    rw [e2, h]
    have e3 : (⟨#[40, 41, 59]⟩ : ByteArray).data.toList = [40, 41, 59] := rfl
    rw [e3]
    constructor
    · intro h3 h4
      have := of_decide_eq_true h4
      omega
    · intro h3
      have : ¬ _ := fun h4 => h3 (decide_eq_true h4)
      omega⟩, h2⟩
/-- The token that begins at k. -/
def tkOf (s : List UInt8) (k : Nat) : List UInt8 := (s.drop k).takeWhile tokB
/-- The error's number behind a token. -/
def tkE (t : List UInt8) (n : Nat) (p : Int × Int) : Int := match tokP t p with
  | .inr e => e
  | .inl _ => if n = 4096 then 5 else 0
theorem tk_go : ∀ (s : List UInt8) (k j : Nat), (∀ i, k ≤ i → i < j → tokB (bt s i) = true) → k ≤ j → j ≤ s.length → (j = s.length ∨ tokB (bt s j) = false) → tkOf s k = (s.drop k).take (j - k) := by
  intro s k j h hk hj he
  unfold tkOf
  obtain ⟨d, rfl⟩ : ∃ d, j = k + d := ⟨j - k, by omega⟩
  rw [Nat.add_sub_cancel_left]
  clear hk
  induction d generalizing k with
  | zero =>
    rw [List.take_zero]
    rcases he with he | he
    · rw [List.drop_eq_nil_of_le (by omega)]; rfl
    · rcases Nat.lt_or_ge k s.length with hl | hl
      · rw [bt_drop hl, List.takeWhile_cons, if_neg (by rw [show bt s (k + 0) = bt s k from rfl] at he; rw [he]; decide)]
      · rw [List.drop_eq_nil_of_le hl]; rfl
  | succ d ih =>
    have hl : k < s.length := by omega
    rw [bt_drop hl, List.takeWhile_cons, if_pos (h k (Nat.le_refl _) (by omega)), List.take_succ_cons]
    rw [ih (k + 1) (fun i h1 h2 => h i (by omega) (by omega)) (by omega) (by rw [show k + 1 + d = k + (d + 1) by omega]; exact he)]
theorem tk_len {s : List UInt8} {k j : Nat} (hk : k ≤ j) (hj : j ≤ s.length) (h : tkOf s k = (s.drop k).take (j - k)) : (tkOf s k).length = j - k := by
  rw [h, List.length_take, List.length_drop]; omega
theorem tok_nl {c : UInt8} (h : tokB c = true) : c ≠ 10 := by
  intro e; subst e; revert h; decide
end Go.Proofs.YtebgaicapjpohaaDoor

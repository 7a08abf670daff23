/- S-expressions: what the reader reads of the texts at the limits; plain. -/
import Derived.Test.YtebgaicapjpohaaDoorSeA
namespace Go.Proofs.YtebgaicapjpohaaDoor
set_option linter.unusedSimpArgs false
set_option linter.unusedVariables false
open Go
set_option linter.unusedVariables false

/-- The example's text and what is read of it. -/
def awText : List UInt8 := [40, 97, 32, 66, 32, 45, 55, 41, 32, 59, 32, 99, 10, 40, 41]
def awList : List Sx := [.mk 3 0 1 1 [] [.mk 1 0 1 2 [97] [], .mk 1 0 1 4 [98] [], .mk 2 (-7) 1 6 [] []], .mk 3 0 2 1 [] []]
theorem aw_read : readP awText = .inl awList := by kernel_rfl
/-- n copies of a text. -/
def repP (s : List UInt8) : Nat → List UInt8
  | 0 => []
  | n + 1 => s ++ repP s n
theorem repP_one (c : UInt8) : ∀ n, repP [c] n = List.replicate n c
  | 0 => rfl
  | n + 1 => by rw [repP, repP_one c n]; rfl
theorem repP_len (s : List UInt8) : ∀ n, (repP s n).length = n * s.length
  | 0 => by simp [repP]
  | n + 1 => by rw [repP, List.length_append, repP_len s n, Nat.succ_mul]; omega
theorem skip_blanks : ∀ (n : Nat) (r : List UInt8) (l c : Int), skipP false (List.replicate n 32 ++ r) (l, c) = skipP false r (l, c + n)
  | 0, r, l, c => by simp
  | n + 1, r, l, c => by
    rw [List.replicate_succ, List.cons_append, skipP, if_pos (by decide)]
    have e : stepP 32 (l, c) = (l, c + 1) := rfl
    rw [e, skip_blanks n r l (c + 1)]
    congr 1
    have : c + 1 + (n : Int) = c + ((n + 1 : Nat) : Int) := by omega
    rw [this]
theorem read_blanks (n : Nat) (h : n ≤ 65536) : readP (List.replicate n 32) = .inl [] := by
  unfold readP
  rw [if_neg (by rw [List.length_replicate]; omega), runP]
  have e := skip_blanks n [] 1 1
  rw [List.append_nil] at e
  rw [e]
  rfl
theorem read_long (s : List UInt8) (h : 65536 < s.length) : readP s = .inr (0, 0, 5) := if_pos h
def aB : List UInt8 := [97, 32]
theorem skip_a (r : List UInt8) (p : Int × Int) : skipP false (97 :: r) p = (97 :: r, p) := by
  rw [skipP, if_neg (by decide), if_neg (by decide)]
theorem skip_b (r : List UInt8) (l c : Int) : skipP false (32 :: r) (l, c) = skipP false r (l, c + 1) := by
  rw [skipP, if_pos (by decide)]; rfl
theorem next_a (r : List UInt8) (p : Int × Int) (k : Nat) (x : Sx) : nextP 97 (32 :: r) ⟨97 :: 32 :: r, p, k, [x]⟩ = if k = 4096 then .inr 5 else .inl ⟨32 :: r, (p.1, p.2 + 1), k + 1, [x.push (.mk 1 0 p.1 p.2 [97] [])]⟩ := by
  have e1 : (97 :: 32 :: r).takeWhile tokB = [97] := by rw [List.takeWhile_cons, if_pos (by decide), List.takeWhile_cons, if_neg (by decide)]
  have e2 : (97 :: 32 :: r).dropWhile tokB = 32 :: r := by rw [List.dropWhile_cons, if_pos (by decide), List.dropWhile_cons, if_neg (by decide)]
  have e3 : tokP [97] p = .inl (.mk 1 0 p.1 p.2 [97] []) := by
    unfold tokP
    rw [if_neg (by decide)]
    rfl
  unfold nextP
  rw [if_neg (by decide), if_neg (by decide), e1, e2, e3]
  rfl
theorem run_as : ∀ (n f : Nat) (c : Int) (k : Nat) (x : Sx) (b : Bool), n + 1 ≤ f → k + n ≤ 4096 → ∃ l : List Sx, runP f ⟨if b = true then 32 :: repP aB n else repP aB n, (1, c), k, [x]⟩ = .inl (x.kids ++ l) ∧ l.length = n
  | 0, f + 1, c, k, x, b, _, _ => by
    refine ⟨[], ?_, rfl⟩
    rw [runP]
    have e : ∃ p, skipP false (if b = true then 32 :: repP aB 0 else repP aB 0) (1, c) = ([], p) := by cases b <;> exact ⟨_, rfl⟩
    obtain ⟨p, e⟩ := e
    rw [e, List.append_nil]
  | n + 1, f + 1, c, k, x, b, hf, hk => by
    obtain ⟨c', e⟩ : ∃ c', skipP false (if b = true then 32 :: repP aB (n + 1) else repP aB (n + 1)) (1, c) = (97 :: 32 :: repP aB n, 1, c') := by
      cases b
      · exact ⟨c, skip_a _ _⟩
      · exact ⟨c + 1, by rw [if_pos rfl, skip_b]; exact skip_a _ _⟩
    rw [runP, e]
    dsimp only
    rw [next_a, if_neg (by omega)]
    dsimp only
    obtain ⟨l, h1, h2⟩ := run_as n f (c' + 1) (k + 1) (x.push (.mk 1 0 1 c' [97] [])) true (by omega) (by omega)
    rw [if_pos rfl] at h1
    refine ⟨.mk 1 0 1 c' [97] [] :: l, ?_, by rw [List.length_cons, h2]⟩
    rw [h1]
    show Sum.inl ((x.kids ++ [_]) ++ l) = _
    rw [List.append_assoc]
    rfl
theorem run_over : ∀ (n f : Nat) (c : Int) (k : Nat) (x : Sx) (b : Bool), n + 1 ≤ f → k ≤ 4096 → 4096 < k + n → runP f ⟨if b = true then 32 :: repP aB n else repP aB n, (1, c), k, [x]⟩ = .inr (1, (if b = true then c + 1 else c) + 2 * ((4096 - k : Nat) : Int), 5)
  | 0, f + 1, c, k, x, b, _, h1, h2 => by omega
  | n + 1, f + 1, c, k, x, b, hf, h1, h2 => by
    have e : skipP false (if b = true then 32 :: repP aB (n + 1) else repP aB (n + 1)) (1, c) = (97 :: 32 :: repP aB n, 1, (if b = true then c + 1 else c)) := by
      cases b
      · exact skip_a _ _
      · rw [if_pos rfl, if_pos rfl, skip_b]; exact skip_a _ _
    rw [runP, e]
    dsimp only
    rw [next_a]
    by_cases hk : k = 4096
    · rw [if_pos hk]
      dsimp only
      subst hk
      congr 2
      simp
    · rw [if_neg hk]
      dsimp only
      have h3 := run_over n f ((if b = true then c + 1 else c) + 1) (k + 1) (x.push (.mk 1 0 1 (if b = true then c + 1 else c) [97] [])) true (by omega) (by omega) (by omega)
      rw [if_pos rfl, if_pos rfl] at h3
      rw [h3]
      have e2 : (if b = true then c + 1 else c) + 1 + 1 + 2 * ((4096 - (k + 1) : Nat) : Int) = (if b = true then c + 1 else c) + 2 * ((4096 - k : Nat) : Int) := by omega
      rw [e2]
/-- Words one behind the other. -/
theorem read_as (n : Nat) (h : n ≤ 4096) : ∃ l : List Sx, readP (repP aB n) = .inl l ∧ l.length = n := by
  unfold readP
  have hl : (repP aB n).length = n * 2 := repP_len aB n
  rw [if_neg (by omega)]
  obtain ⟨l, h1, h2⟩ := run_as n ((repP aB n).length + 1) 1 0 Sx.none false (by omega) (by omega)
  exact ⟨l, h1, h2⟩
theorem read_over (n : Nat) (h : 4096 < n) (h2 : n ≤ 30000) : readP (repP aB n) = .inr (1, 8193, 5) := by
  unfold readP
  have hl : (repP aB n).length = n * 2 := repP_len aB n
  rw [if_neg (by omega)]
  exact run_over n ((repP aB n).length + 1) 1 0 Sx.none false (by omega) (by omega) (by omega)
end Go.Proofs.YtebgaicapjpohaaDoor

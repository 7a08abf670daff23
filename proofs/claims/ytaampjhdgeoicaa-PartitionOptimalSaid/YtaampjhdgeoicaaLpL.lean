/- Linear programs, plain: the program of limits, x_i at most b_i: its run. -/
import Derived.Test.YtaampjhdgeoicaaMfC
namespace Go.Proofs.Ytaampjhdgeoicaa
set_option linter.unusedSimpArgs false
set_option linter.unusedVariables false
set_option linter.unusedVariables false

theorem rep_nat {k : Nat} (h : k ≤ 1000) : Rep (k : Rat) := by
  unfold Rep aI
  rw [Rat.num_natCast, Rat.den_natCast]
  omega
section
variable {n : Nat} {c : Nat → Rat}
/-- The tableau after the pivots p: the rows stay. -/
structure LimI (n : Nat) (g : Nat → Rat) (p : Nat → Bool) (T : TB) : Prop where
  a : ∀ i, i < n → ∀ j, j < n → T.a i j = if i = j then 1 else 0
  a' : ∀ i, i < n → ∀ j, j < n → T.a i (n + j) = if j = i then 1 else 0
  b : ∀ i, i < n → T.b i = (i : Rat)
  c : ∀ j, j < n → T.c j = if p j then 0 else g j
  c' : ∀ j, j < n → T.c (n + j) = if p j then -1 else 0
  z : T.z = sg n fun j => if p j then (j : Rat) else 0
  up : ∀ j, j < n → p j = true → g j = 1
theorem lim_nat (p : Nat → Bool) : ∀ n, ∃ k : Nat, k ≤ n * n ∧ (sg n fun j => if p j then (j : Rat) else 0) = (k : Rat)
  | 0 => ⟨0, by omega, rfl⟩
  | n + 1 => by
    obtain ⟨k, h, e⟩ := lim_nat p n
    have h2 : (n + 1) * (n + 1) = n * n + 2 * n + 1 := by rw [Nat.mul_add, Nat.add_mul]; omega
    show ∃ k' : Nat, _ ∧ (sg n fun j => if p j then (j : Rat) else 0) + (if p n then (n : Rat) else 0) = (k' : Rat)
    rw [e]
    split
    · exact ⟨k + n, by omega, by rw [Rat.natCast_add]⟩
    · exact ⟨k, by omega, by grind⟩
theorem LimI.rep {p : Nat → Bool} {T : TB} (h : LimI n c p T) (hn : n ≤ 24) : Rep T.z := by
  obtain ⟨k, h1, e⟩ := lim_nat p n
  rw [h.z, e]
  have : n * n ≤ 24 * 24 := Nat.mul_le_mul hn hn
  exact rep_nat (by omega)
theorem lim_begin : LimI n c (fun _ => false) (tb0 n (fun i j => if i = j then 1 else 0) (fun i => (i : Rat)) c) where
  a := fun i hi j hj => by show (if j < n then _ else _) = _; rw [if_pos hj]
  a' := fun i hi j hj => by
    show (if n + j < n then _ else if n + j = n + i then (1 : Rat) else 0) = _
    rw [if_neg (by omega)]
    by_cases e : j = i
    · rw [if_pos (by omega), if_pos e]
    · rw [if_neg (by omega), if_neg e]
  b := fun i hi => rfl
  c := fun j hj => by show (if j < n then _ else _) = _; rw [if_pos hj]; rfl
  c' := fun j hj => by show (if n + j < n then _ else _) = _; rw [if_neg (by omega)]; rfl
  z := (sg_zero' fun i hi => rfl).symm
  up := fun j hj h => nomatch h
variable {p : Nat → Bool} {T : TB}
theorem lim_ent (h : LimI n c p T) (hc : ∀ j, j < n → c j = 1 ∨ c j = -1) {k : Nat} (he : Ent (n + n) T k) : k < n ∧ p k = false ∧ c k = 1 := by
  obtain ⟨h1, h2, _⟩ := he
  by_cases hk : k < n
  · rw [h.c k hk] at h2
    cases e : p k
    · rw [e] at h2
      refine ⟨hk, rfl, ?_⟩
      rcases hc k hk with h3 | h3
      · exact h3
      · rw [h3] at h2; exact absurd h2 (by decide)
    · rw [e, if_pos rfl] at h2; exact absurd h2 (by decide)
  · have e : k = n + (k - n) := by omega
    rw [e, h.c' (k - n) (by omega)] at h2
    split at h2 <;> exact absurd h2 (by decide)
theorem lim_lea (h : LimI n c p T) {k r : Nat} (hk : k < n) (hl : Lea n T k r) : r = k := by
  have h1 := hl.2.1
  rw [h.a r hl.1 k hk] at h1
  split at h1
  · assumption
  · exact absurd h1 (by decide)
theorem lim_ratio (h : LimI n c p T) {k : Nat} (hk : k < n) : RatOK n T k := fun i j hi hj hij h1 h2 => by
  rw [h.a i hi k hk] at h1
  rw [h.a j hj k hk] at h2
  split at h1
  · split at h2
    · omega
    · exact absurd h2 (by decide)
  · exact absurd h1 (by decide)
theorem lim_a {i j : Nat} (h : LimI n c p T) (hi : i < n) (hj : j < n + n) : T.a i j = 0 ∨ T.a i j = 1 := by
  by_cases e : j < n
  · rw [h.a i hi j e]
    split
    · exact .inr rfl
    · exact .inl rfl
  · rw [show j = n + (j - n) by omega, h.a' i hi (j - n) (by omega)]
    split
    · exact .inr rfl
    · exact .inl rfl
theorem lim_piv (h : LimI n c p T) {k : Nat} (hk : k < n) (hp : p k = false) (hc1 : c k = 1) : LimI n c (fun j => if j = k then true else p j) (piv T k k) := by
  have hkk : T.a k k = 1 := by rw [h.a k hk k hk, if_pos rfl]
  have hck : T.c k = 1 := by rw [h.c k hk, hp]; exact hc1
  refine ⟨fun i hi j hj => ?_, fun i hi j hj => ?_, fun i hi => ?_, fun j hj => ?_, fun j hj => ?_, ?_, fun j hj h1 => ?_⟩
  · show (if i = k then _ else _) = _
    rw [hkk, h.a i hi j hj, h.a i hi k hk, h.a k hk j hj]
    split
    · rename_i e; subst e; grind
    · rename_i e; grind
  · show (if i = k then _ else _) = _
    rw [hkk, h.a' i hi j hj, h.a i hi k hk, h.a' k hk j hj]
    split
    · rename_i e; subst e; grind
    · rename_i e; grind
  · show (if i = k then _ else _) = _
    rw [hkk, h.b i hi, h.b k hk, h.a i hi k hk]
    split
    · rename_i e; subst e; grind
    · rename_i e; grind
  · show T.c j - T.c k * (T.a k j / T.a k k) = _
    rw [hkk, hck, h.c j hj, h.a k hk j hj]
    by_cases e : j = k
    · subst e
      rw [hp, hc1]
      simp
      grind
    · rw [if_neg (show ¬ k = j from fun h => e h.symm), if_neg e]
      grind
  · show T.c (n + j) - T.c k * (T.a k (n + j) / T.a k k) = _
    rw [hkk, hck, h.c' j hj, h.a' k hk j hj]
    by_cases e : j = k
    · subst e
      rw [hp]
      simp
      grind
    · rw [if_neg e, if_neg e]
      grind
  · show T.z + T.c k * (T.b k / T.a k k) = _
    rw [hkk, hck, h.b k hk, h.z]
    have e1 : (sg n fun j => if (if j = k then true else p j) then (j : Rat) else 0) = sg n fun j => (if p j then (j : Rat) else 0) + (if j = k then (k : Rat) else 0) := sg_congr n fun j hj => by
      by_cases e : j = k
      · subst e; rw [hp]; simp; grind
      · rw [if_neg e, if_neg e]; grind
    rw [e1, sg_add, sg_one (f := fun j => if j = k then (k : Rat) else 0) n hk fun i hi he => if_neg he, if_pos rfl]
    grind
  · by_cases e : j = k
    · subst e; exact hc1
    · rw [if_neg e] at h1; exact h.up j hj h1
theorem rep_01 {r : Rat} (h : r = 0 ∨ r = 1) : Rep r := by rcases h with rfl | rfl <;> decide
theorem lim_c {j : Nat} (h : LimI n c p T) (hc : ∀ j, j < n → c j = 1 ∨ c j = -1) (hj : j < n + n) : T.c j = 0 ∨ T.c j = 1 ∨ T.c j = -1 := by
  by_cases e : j < n
  · rw [h.c j e]
    have := hc j e
    split <;> grind
  · rw [show j = n + (j - n) by omega, h.c' (j - n) (by omega)]
    split <;> grind
theorem lim_ok (h : LimI n c p T) (hn : n ≤ 24) (hc : ∀ j, j < n → c j = 1 ∨ c j = -1) {k : Nat} (hk : k < n) (hp : p k = false) (hc1 : c k = 1) : PivOK n (n + n) T k k := by
  have h' := lim_piv h hk hp hc1
  have hkk : T.a k k = 1 := by rw [h.a k hk k hk, if_pos rfl]
  have hck : T.c k = 1 := by rw [h.c k hk, hp]; exact hc1
  have hd : ∀ j, j < n + n → T.a k j / T.a k k = T.a k j := fun j hj => by rw [hkk]; grind
  have hb : T.b k / T.a k k = (k : Rat) := by rw [hkk, h.b k hk]; grind
  refine ⟨fun j hj => ?_, ?_, fun i hi hik j hj => ?_, fun i hi hik => ?_, fun j hj => ?_, ?_⟩
  · rw [hd j hj]; exact rep_01 (lim_a h hk hj)
  · rw [hb]; exact rep_nat (by omega)
  · rw [h.a i hi k hk, if_neg hik, hd j hj]
    refine ⟨?_, ?_⟩
    · rw [Rat.zero_mul]; exact rep_zero
    · rw [Rat.zero_mul, show T.a i j - 0 = T.a i j by grind]; exact rep_01 (lim_a h hi hj)
  · rw [h.a i hi k hk, if_neg hik, hb]
    refine ⟨?_, ?_⟩
    · rw [Rat.zero_mul]; exact rep_zero
    · rw [Rat.zero_mul, h.b i hi, show (i : Rat) - 0 = (i : Rat) by grind]; exact rep_nat (by omega)
  · have h1 := lim_c h' hc hj
    have e : (piv T k k).c j = T.c j - T.c k * (T.a k j / T.a k k) := rfl
    rw [e] at h1
    refine ⟨?_, ?_⟩
    · rw [hck, hd j hj, Rat.one_mul]; exact rep_01 (lim_a h hk hj)
    · rcases h1 with h1 | h1 | h1 <;> rw [h1] <;> decide
  · refine ⟨?_, ?_⟩
    · rw [hck, hb, Rat.one_mul]; exact rep_nat (by omega)
    · exact h'.rep hn
theorem lim_run (hn : n ≤ 24) (hc : ∀ j, j < n → c j = 1 ∨ c j = -1) {T0 : TB} (h0 : LimI n c (fun _ => false) T0) : ∀ {q : Nat} {T : TB}, Rn n (n + n) T0 q T → ∃ p, LimI n c p T := by
  intro q T h
  induction h with
  | zero => exact ⟨_, h0⟩
  | succ _ he _ hl _ ih =>
    obtain ⟨p, hi⟩ := ih
    obtain ⟨h1, h2, h3⟩ := lim_ent hi hc he
    obtain rfl := lim_lea hi h1 hl
    exact ⟨_, lim_piv hi h1 h2 h3⟩
/-- The run ends well, with the sum of the limits. -/
theorem lim_fin (hn : n ≤ 24) (hc : ∀ j, j < n → c j = 1 ∨ c j = -1) {T0 : TB} (h0 : LimI n c (fun _ => false) T0) {R : Res} (h : Fin n (n + n) T0 R) : ∃ T, R = .ok T ∧ T.z = sg n fun j => if decide (c j = 1) then (j : Rat) else 0 := by
  obtain ⟨q, T, hr, hl⟩ := h
  obtain ⟨p, hi⟩ := lim_run hn hc h0 hr
  cases hl with
  | done h1 =>
    refine ⟨T, rfl, hi.z.trans (sg_congr n fun j hj => ?_)⟩
    cases e : p j
    · have h2 := h1 j (by omega)
      rw [hi.c j hj, e] at h2
      have h3 : ¬ c j = 1 := fun h3 => by rw [h3] at h2; exact absurd h2 (by decide)
      rw [decide_eq_false h3]
    · rw [decide_eq_true (hi.up j hj e)]
  | none he h1 =>
    obtain ⟨a1, a2, a3⟩ := lim_ent hi hc he
    have := h1 _ a1
    rw [hi.a _ a1 _ a1, if_pos rfl] at this
    exact absurd this (by decide)
  | ratio he h1 => exact absurd (lim_ratio hi (lim_ent hi hc he).1) h1
  | large he h1 h2 h3 =>
    obtain ⟨a1, a2, a3⟩ := lim_ent hi hc he
    obtain rfl := lim_lea hi a1 h2
    exact absurd (lim_ok hi hn hc a1 a2 a3) h3
end

end Go.Proofs.Ytaampjhdgeoicaa

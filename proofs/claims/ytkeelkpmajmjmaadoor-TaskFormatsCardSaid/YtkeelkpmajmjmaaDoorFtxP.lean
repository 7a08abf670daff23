/- Texts of fractions, plain: numerals are read back; a text tells its fraction. -/
import Derived.Lib.ItoaNum
import Derived.Lib.ItoaLen
import Derived.Lib.AtoiAll
import Derived.Lib.IndexMore
import Derived.Test.YtkeelkpmajmjmaaDoorFracA
namespace Go.Proofs.YtkeelkpmajmjmaaDoor
set_option linter.unusedSimpArgs false
set_option linter.unusedVariables false
open Go Go.Lib
set_option linter.unusedVariables false

theorem dg_nat {k : Nat} (h : k < 10) : (UInt8.ofNat (48 + k)).toNat = 48 + k := by
  rw [UInt8.toNat_ofNat']; omega
theorem dec_big {u : Nat} (h : ¬ u < 10) : decDigits u = decDigits (u / 10) ++ [UInt8.ofNat (48 + u % 10)] := by rw [decDigits, dif_neg h]
theorem dec_ne (u : Nat) : decDigits u ≠ [] := by
  by_cases h : u < 10
  · rw [decDigits_one h]; exact List.cons_ne_nil _ _
  · rw [dec_big h]; simp
theorem dec_dig (u : Nat) : ∀ c ∈ decDigits u, 48 ≤ c.toNat ∧ c.toNat ≤ 57 := by
  induction u using Nat.strongRecOn with
  | _ u ih =>
    intro c hc
    by_cases h : u < 10
    · rw [decDigits_one h] at hc
      simp only [List.mem_singleton] at hc
      subst hc
      rw [dg_nat h]; omega
    · rw [dec_big h, List.mem_append] at hc
      rcases hc with hc | hc
      · exact ih (u / 10) (by omega) c hc
      · simp only [List.mem_singleton] at hc
        subst hc
        rw [dg_nat (by omega)]; omega

/-- A numeral is read back. -/
theorem uint_step (acc k : Nat) (r : List UInt8) (hk : k < 10) (ha : acc < 1000000000000000) : parseUint10 acc (UInt8.ofNat (48 + k) :: r) = parseUint10 (acc * 10 + k) r := by
  simp only [parseUint10]
  rw [dg_nat hk, if_pos (by omega), if_neg (by omega), if_neg (by omega), show 48 + k - 48 = k by omega]
theorem uint_dec (u : Nat) : ∀ r, u < 10000000000000000 → parseUint10 0 (decDigits u ++ r) = parseUint10 u r := by
  induction u using Nat.strongRecOn with
  | _ u ih =>
    intro r hu
    by_cases h : u < 10
    · rw [decDigits_one h]
      show parseUint10 0 (UInt8.ofNat (48 + u) :: r) = _
      rw [uint_step 0 u r h (by omega), Nat.zero_mul, Nat.zero_add]
    · rw [dec_big h, List.append_assoc, ih (u / 10) (by omega) _ (by omega)]
      show parseUint10 (u / 10) (UInt8.ofNat (48 + u % 10) :: r) = _
      rw [uint_step _ _ r (by omega) (by omega), show u / 10 * 10 + u % 10 = u by omega]
theorem mag_dec (u : Nat) (hu : u < 10000000000000000) : parseMag (decDigits u) = .ok u := by
  unfold parseMag
  rw [if_neg (dec_ne u)]
  have h := uint_dec u [] hu
  rw [List.append_nil] at h
  rw [h]; rfl
theorem atoi_itoa (n : Int) (h1 : -10000000000000000 < n) (h2 : n < 10000000000000000) : atoiAll (itoa n) = .ok n := by
  unfold itoa
  split
  · rename_i hn
    unfold atoiAll
    simp only
    rw [if_pos (by right; decide), mag_dec _ (by omega)]
    simp only
    rw [if_neg (by simp), if_neg (by omega), if_pos (by decide)]
    congr 1; omega
  · rename_i hn
    obtain ⟨c, r, hc⟩ := List.exists_cons_of_ne_nil (dec_ne n.toNat)
    have hd := dec_dig n.toNat c (by rw [hc]; simp)
    have hm := mag_dec n.toNat (by omega)
    rw [hc] at hm ⊢
    unfold atoiAll
    simp only
    rw [if_neg (by omega), hm]
    simp only
    rw [if_neg (by omega), if_neg (by omega), if_neg (by omega)]
    congr 1; omega

/-- At most k digits at a text's beginning: their number, and the rest. -/
def numG : Nat → Nat → List UInt8 → Nat × List UInt8
  | 0, acc, l => (acc, l)
  | _ + 1, acc, [] => (acc, [])
  | k + 1, acc, c :: r => if 48 ≤ c.toNat ∧ c.toNat ≤ 57 then numG k (10 * acc + (c.toNat - 48)) r else (acc, c :: r)
def numF (l : List UInt8) : Nat × List UInt8 := numG 13 0 l
theorem num_dec (u : Nat) : ∀ (j : Nat) (r : List UInt8), numG (nDigits u + j) 0 (decDigits u ++ r) = numG j u r := by
  induction u using Nat.strongRecOn with
  | _ u ih =>
    intro j r
    by_cases h : u < 10
    · rw [decDigits_one h, nDigits_small h, Nat.add_comm]
      show (if _ then _ else _) = _
      rw [dg_nat h, if_pos (by omega)]
      congr 1; omega
    · rw [dec_big h, nDigits_big h, List.append_assoc, Nat.add_assoc, Nat.add_comm 1 j, ih (u / 10) (by omega)]
      show (if _ then _ else _) = _
      rw [dg_nat (by omega), if_pos (by omega)]
      congr 1; omega
theorem nd_le (k : Nat) : ∀ u, u < 10 ^ (k + 1) → nDigits u ≤ k + 1 := by
  induction k with
  | zero => intro u hu; rw [nDigits_small (by simpa using hu)]; exact Nat.le_refl _
  | succ k ih =>
    intro u hu
    by_cases h : u < 10
    · rw [nDigits_small h]; omega
    · rw [nDigits_big h]
      have := ih (u / 10) (by rw [Nat.pow_succ] at hu; omega)
      omega
theorem numG_end (j u : Nat) : numG j u [] = (u, []) := by cases j <;> rfl
theorem numG_sl (j u : Nat) (r : List UInt8) : numG j u (47 :: r) = (u, 47 :: r) := by
  cases j with
  | zero => rfl
  | succ j => show (if _ then _ else _) = _; rw [if_neg (by decide)]
theorem num13 (u : Nat) (hu : u < 10000000000000) (r : List UInt8) (hr : r = [] ∨ ∃ t, r = 47 :: t) : numF (decDigits u ++ r) = (u, r) := by
  obtain ⟨j, hj⟩ : ∃ j, 13 = nDigits u + j := ⟨13 - nDigits u, by have := nd_le 12 u (by omega); omega⟩
  unfold numF
  rw [hj, num_dec]
  rcases hr with rfl | ⟨t, rfl⟩
  · exact numG_end _ _
  · exact numG_sl _ _ _
theorem numG_bd (k : Nat) : ∀ (acc : Nat) (l : List UInt8), (numG k acc l).1 < 10 ^ k * (acc + 1) ∧ (numG k acc l).2.length ≤ l.length := by
  induction k with
  | zero => intro acc l; exact ⟨by simp [numG], Nat.le_refl _⟩
  | succ k ih =>
    intro acc l
    have h10 : acc < 10 ^ (k + 1) * (acc + 1) := by
      have : 1 * (acc + 1) ≤ 10 ^ (k + 1) * (acc + 1) := Nat.mul_le_mul_right _ (Nat.pos_of_ne_zero (by simp))
      omega
    cases l with
    | nil => exact ⟨h10, Nat.le_refl _⟩
    | cons c r =>
      show (if _ then _ else _ : Nat × List UInt8).1 < _ ∧ (if _ then _ else _ : Nat × List UInt8).2.length ≤ _
      split
      · rename_i hc
        obtain ⟨h1, h2⟩ := ih (10 * acc + (c.toNat - 48)) r
        refine ⟨Nat.lt_of_lt_of_le h1 ?_, by simp; omega⟩
        rw [Nat.pow_succ, Nat.mul_assoc]
        exact Nat.mul_le_mul_left _ (by omega)
      · exact ⟨h10, Nat.le_refl _⟩
theorem numF_bd (l : List UInt8) : (numF l).1 < 10000000000000 ∧ (numF l).2.length ≤ l.length := by
  have := numG_bd 13 0 l
  exact ⟨by have h := this.1; simp at h; exact h, this.2⟩

/-- The text before a slash, the text after it. -/
theorem idx_no (a : List UInt8) (h : (47 : UInt8) ∉ a) : index a [47] = -1 := by
  induction a with
  | nil => rfl
  | cons c r ih =>
    have hc : ¬ (47 : UInt8) = c := fun e => h (by simp [e])
    unfold index
    rw [ih (fun hr => h (by simp [hr]))]
    simp [List.isPrefixOf, hc]
theorem idx_at (a b : List UInt8) (h : (47 : UInt8) ∉ a) : index (a ++ 47 :: b) [47] = a.length := by
  induction a with
  | nil => simp [index, List.isPrefixOf]
  | cons c r ih =>
    have hc : ¬ (47 : UInt8) = c := fun e => h (by simp [e])
    have e := ih (fun hr => h (by simp [hr]))
    rw [List.cons_append]
    unfold index
    rw [e]
    have : ¬ ((r.length : Int) = -1) := by omega
    simp [List.isPrefixOf, hc, this]
theorem cut_no (a : List UInt8) (h : (47 : UInt8) ∉ a) : cut a [47] = (a, [], false) := by
  unfold cut; rw [idx_no a h, if_neg (by decide)]
theorem cut_at (a b : List UInt8) (h : (47 : UInt8) ∉ a) : cut (a ++ 47 :: b) [47] = (a, b, true) := by
  unfold cut; rw [idx_at a b h, if_pos (by omega)]
  simp
theorem itoa_no (n : Int) : (47 : UInt8) ∉ itoa n := by
  unfold itoa
  intro h
  have hd : ∀ u, (47 : UInt8) ∉ decDigits u := fun u hu => by have := dec_dig u _ hu; revert this; decide
  split at h
  · rcases List.mem_cons.1 h with h | h
    · revert h; decide
    · exact hd _ h
  · exact hd _ h

/-- The text of a fraction; how it is read. -/
def txtF (n d : Int) : List UInt8 := if d = 1 then itoa n else itoa n ++ 47 :: itoa d
def ptN (s : List UInt8) : NumEnd Int := atoiAll (cut s [47]).1
def ptD (s : List UInt8) : NumEnd Int := if (cut s [47]).2.2 then atoiAll (cut s [47]).2.1 else .ok 1
theorem pr_bd {n d : Int} (h : prB n d = true) : 1 ≤ d ∧ d ≤ 1048576 ∧ -1099511627776 ≤ n ∧ n ≤ 1099511627776 := by
  unfold prB at h; simp at h; omega
theorem pt_txt {n d : Int} (h : prB n d = true) : ptN (txtF n d) = .ok n ∧ ptD (txtF n d) = .ok d := by
  obtain ⟨h1, h2, h3, h4⟩ := pr_bd h
  unfold ptN ptD txtF
  split
  · rename_i e
    rw [cut_no _ (itoa_no n)]
    exact ⟨atoi_itoa n (by omega) (by omega), by rw [e]; rfl⟩
  · rw [cut_at _ _ (itoa_no n)]
    exact ⟨atoi_itoa n (by omega) (by omega), atoi_itoa d (by omega) (by omega)⟩
theorem txt_inj {n d m e : Int} (h1 : prB n d = true) (h2 : prB m e = true) (h : txtF n d = txtF m e) : n = m ∧ d = e := by
  have a := pt_txt h1
  have b := pt_txt h2
  rw [h, b.1, b.2] at a
  obtain ⟨a1, a2⟩ := a
  injection a1 with a1
  injection a2 with a2
  exact ⟨a1.symm, a2.symm⟩
theorem txt_len (n d : Int) (h : prB n d = true) : (txtF n d).length ≤ 43 := by
  obtain ⟨h1, h2, h3, h4⟩ := pr_bd h
  have a := itoa_length_le n (by omega) (by omega)
  have b := itoa_length_le d (by omega) (by omega)
  unfold txtF
  split
  · omega
  · simp; omega

/-- The reference's way of reading. -/
def rsg (s : List UInt8) : Int := if s.head? = some 45 then -1 else 1
def rrs (s : List UInt8) : List UInt8 := if s.head? = some 45 then s.tail else s
def rr1 (s : List UInt8) : List UInt8 := (numF (rrs s)).2
def rpN (s : List UInt8) : Int := ((numF (rrs s)).1 : Int) * rsg s
def rpD (s : List UInt8) : Int := if (rr1 s).head? = some 47 then ((numF (rr1 s).tail).1 : Int) else 1
theorem itoa_head (n : Int) (r : List UInt8) : (if (itoa n ++ r).head? = some 45 then (-1 : Int) else 1) = (if n < 0 then -1 else 1) ∧ (if (itoa n ++ r).head? = some 45 then (itoa n ++ r).tail else itoa n ++ r) = decDigits n.natAbs ++ r := by
  unfold itoa
  by_cases h : n < 0
  · rw [if_pos h]; simp [h]
  · rw [if_neg h]
    obtain ⟨c, t, hc⟩ := List.exists_cons_of_ne_nil (dec_ne n.toNat)
    have hd := dec_dig n.toNat c (by rw [hc]; simp)
    have hne : ¬ c = 45 := fun e => by subst e; revert hd; decide
    have e : n.natAbs = n.toNat := by omega
    rw [e, hc]; simp [h, hne]
theorem rp_txt {n d : Int} (h : prB n d = true) : rpN (txtF n d) = n ∧ rpD (txtF n d) = d := by
  obtain ⟨h1, h2, h3, h4⟩ := pr_bd h
  obtain ⟨r, hr, ht, hd⟩ : ∃ r, (r = [] ∨ ∃ t, r = 47 :: t) ∧ txtF n d = itoa n ++ r ∧ (if r.head? = some 47 then ((numF r.tail).1 : Int) else 1) = d := by
    unfold txtF
    by_cases e : d = 1
    · exact ⟨[], .inl rfl, by rw [if_pos e, List.append_nil], by rw [e]; rfl⟩
    · refine ⟨47 :: itoa d, .inr ⟨_, rfl⟩, by rw [if_neg e], ?_⟩
      have hi : itoa d = decDigits d.toNat := by unfold itoa; rw [if_neg (by omega)]
      have hn := num13 d.toNat (by omega) [] (.inl rfl)
      rw [List.append_nil] at hn
      simp only [List.head?_cons, List.tail_cons, if_true]
      rw [hi, hn]
      show ((d.toNat : Nat) : Int) = d
      omega
  have hh := itoa_head n r
  have e2 : rrs (txtF n d) = decDigits n.natAbs ++ r := by unfold rrs; rw [ht]; exact hh.2
  have e1 : rsg (txtF n d) = if n < 0 then -1 else 1 := by unfold rsg; rw [ht]; exact hh.1
  have hn := num13 n.natAbs (by omega) r hr
  refine ⟨?_, ?_⟩
  · unfold rpN
    rw [e2, e1, hn]
    show ((n.natAbs : Nat) : Int) * _ = n
    split <;> omega
  · unfold rpD rr1
    rw [e2, hn]
    exact hd

end Go.Proofs.YtkeelkpmajmjmaaDoor

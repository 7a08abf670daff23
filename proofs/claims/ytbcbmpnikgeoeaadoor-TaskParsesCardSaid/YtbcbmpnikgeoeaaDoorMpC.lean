/- Texts laid together: FracA, FtxP, TfP, TpA, TpB, TpC, TpD, TpE, TpF, TpG, TpH, TpI, TpJ. -/
import Derived.Test.YtbcbmpnikgeoeaaDoorMpA
import Derived.Lib.ItoaNum
import Derived.Lib.ItoaLen
import Derived.Lib.AtoiAll
import Derived.Lib.IndexMore
import Derived.Test.YtbcbmpnikgeoeaaDoorMpB
import Derived.Lib.Split
namespace Go.Proofs.YtbcbmpnikgeoeaaDoor
set_option linter.unusedSimpArgs false
set_option linter.unusedVariables false
section
open Go.RowKit

/-- Int.gcd as an Int. -/
def gI (a b : Int) : Int := ((Int.gcd a b : Nat) : Int)

theorem gI_zero (a : Int) (h : 0 ≤ a) : gI a 0 = a := by
  unfold gI; simp; omega
theorem gI_step (a b : Int) : gI b (a % b) = gI a b := by
  unfold gI
  have h := Int.gcd_add_mul_right_left b (a % b) (a / b)
  have e : a % b + a / b * b = a := by have := Int.emod_add_mul_ediv a b; rw [Int.mul_comm]; exact this
  rw [e] at h
  rw [h, Int.gcd_comm]

/-- The absolute value. -/
def aI (n : Int) : Int := (n.natAbs : Int)
theorem aI_nonneg (n : Int) : 0 ≤ aI n := by unfold aI; omega
theorem aI_le (n b : Int) (h1 : -b ≤ n) (h2 : n ≤ b) : aI n ≤ b := by unfold aI; omega
theorem gI_aI (n d : Int) : gI (aI n) d = gI n d := by
  unfold gI aI; simp [Int.gcd]

/-- Proper. -/
def prB (n d : Int) : Bool := decide (1 ≤ d ∧ d ≤ 1048576 ∧ -1099511627776 ≤ n ∧ n ≤ 1099511627776 ∧ gI n d = 1)

end

section
open Go Go.Lib
set_option linter.unusedVariables false

theorem dg_nat {k : Nat} (h : k < 10) : (UInt8.ofNat (48 + k)).toNat = 48 + k := by
  rw [UInt8.toNat_ofNat']; omega
theorem dec_big {u : Nat} (h : ¬ u < 10) : decDigits u = decDigits (u / 10) ++ [UInt8.ofNat (48 + u % 10)] := by rw [decDigits, dif_neg h]
theorem dec_ne (u : Nat) : decDigits u ≠ [] := by
  by_cases h : u < 10
  · rw [decDigits_one h]; exact List.cons_ne_nil _ _
  · rw [dec_big h]; simp
theorem dec_dig (u : Nat) : ∀ c ∈ decDigits u, 48 ≤ c.toNat ∧ c.toNat ≤ 57 := by
  induction u using Nat.strongRecOn with
  | _ u ih =>
    intro c hc
    by_cases h : u < 10
    · rw [decDigits_one h] at hc
      simp only [List.mem_singleton] at hc
      subst hc
      rw [dg_nat h]; omega
    · rw [dec_big h, List.mem_append] at hc
      rcases hc with hc | hc
      · exact ih (u / 10) (by omega) c hc
      · simp only [List.mem_singleton] at hc
        subst hc
        rw [dg_nat (by omega)]; omega

/-- A numeral is read back. -/
theorem uint_step (acc k : Nat) (r : List UInt8) (hk : k < 10) (ha : acc < 1000000000000000) : parseUint10 acc (UInt8.ofNat (48 + k) :: r) = parseUint10 (acc * 10 + k) r := by
  simp only [parseUint10]
  rw [dg_nat hk, if_pos (by omega), if_neg (by omega), if_neg (by omega), show 48 + k - 48 = k by omega]
theorem uint_dec (u : Nat) : ∀ r, u < 10000000000000000 → parseUint10 0 (decDigits u ++ r) = parseUint10 u r := by
  induction u using Nat.strongRecOn with
  | _ u ih =>
    intro r hu
    by_cases h : u < 10
    · rw [decDigits_one h]
      show parseUint10 0 (UInt8.ofNat (48 + u) :: r) = _
      rw [uint_step 0 u r h (by omega), Nat.zero_mul, Nat.zero_add]
    · rw [dec_big h, List.append_assoc, ih (u / 10) (by omega) _ (by omega)]
      show parseUint10 (u / 10) (UInt8.ofNat (48 + u % 10) :: r) = _
      rw [uint_step _ _ r (by omega) (by omega), show u / 10 * 10 + u % 10 = u by omega]
theorem mag_dec (u : Nat) (hu : u < 10000000000000000) : parseMag (decDigits u) = .ok u := by
  unfold parseMag
  rw [if_neg (dec_ne u)]
  have h := uint_dec u [] hu
  rw [List.append_nil] at h
  rw [h]; rfl
theorem atoi_itoa (n : Int) (h1 : -10000000000000000 < n) (h2 : n < 10000000000000000) : atoiAll (itoa n) = .ok n := by
  unfold itoa
  split
  · rename_i hn
    unfold atoiAll
    simp only
    rw [if_pos (by right; decide), mag_dec _ (by omega)]
    simp only
    rw [if_neg (by simp), if_neg (by omega), if_pos (by decide)]
    congr 1; omega
  · rename_i hn
    obtain ⟨c, r, hc⟩ := List.exists_cons_of_ne_nil (dec_ne n.toNat)
    have hd := dec_dig n.toNat c (by rw [hc]; simp)
    have hm := mag_dec n.toNat (by omega)
    rw [hc] at hm ⊢
    unfold atoiAll
    simp only
    rw [if_neg (by omega), hm]
    simp only
    rw [if_neg (by omega), if_neg (by omega), if_neg (by omega)]
    congr 1; omega

/-- At most k digits at a text's beginning: their number, and the rest. -/
def numG : Nat → Nat → List UInt8 → Nat × List UInt8
  | 0, acc, l => (acc, l)
  | _ + 1, acc, [] => (acc, [])
  | k + 1, acc, c :: r => if 48 ≤ c.toNat ∧ c.toNat ≤ 57 then numG k (10 * acc + (c.toNat - 48)) r else (acc, c :: r)
def numF (l : List UInt8) : Nat × List UInt8 := numG 13 0 l
theorem num_dec (u : Nat) : ∀ (j : Nat) (r : List UInt8), numG (nDigits u + j) 0 (decDigits u ++ r) = numG j u r := by
  induction u using Nat.strongRecOn with
  | _ u ih =>
    intro j r
    by_cases h : u < 10
    · rw [decDigits_one h, nDigits_small h, Nat.add_comm]
      show (if _ then _ else _) = _
      rw [dg_nat h, if_pos (by omega)]
      congr 1; omega
    · rw [dec_big h, nDigits_big h, List.append_assoc, Nat.add_assoc, Nat.add_comm 1 j, ih (u / 10) (by omega)]
      show (if _ then _ else _) = _
      rw [dg_nat (by omega), if_pos (by omega)]
      congr 1; omega
theorem nd_le (k : Nat) : ∀ u, u < 10 ^ (k + 1) → nDigits u ≤ k + 1 := by
  induction k with
  | zero => intro u hu; rw [nDigits_small (by simpa using hu)]; exact Nat.le_refl _
  | succ k ih =>
    intro u hu
    by_cases h : u < 10
    · rw [nDigits_small h]; omega
    · rw [nDigits_big h]
      have := ih (u / 10) (by rw [Nat.pow_succ] at hu; omega)
      omega
theorem numG_end (j u : Nat) : numG j u [] = (u, []) := by cases j <;> rfl
theorem numG_sl (j u : Nat) (r : List UInt8) : numG j u (47 :: r) = (u, 47 :: r) := by
  cases j with
  | zero => rfl
  | succ j => show (if _ then _ else _) = _; rw [if_neg (by decide)]
theorem num13 (u : Nat) (hu : u < 10000000000000) (r : List UInt8) (hr : r = [] ∨ ∃ t, r = 47 :: t) : numF (decDigits u ++ r) = (u, r) := by
  obtain ⟨j, hj⟩ : ∃ j, 13 = nDigits u + j := ⟨13 - nDigits u, by have := nd_le 12 u (by omega); omega⟩
  unfold numF
  rw [hj, num_dec]
  rcases hr with rfl | ⟨t, rfl⟩
  · exact numG_end _ _
  · exact numG_sl _ _ _
theorem numG_bd (k : Nat) : ∀ (acc : Nat) (l : List UInt8), (numG k acc l).1 < 10 ^ k * (acc + 1) ∧ (numG k acc l).2.length ≤ l.length := by
  induction k with
  | zero => intro acc l; exact ⟨by simp [numG], Nat.le_refl _⟩
  | succ k ih =>
    intro acc l
    have h10 : acc < 10 ^ (k + 1) * (acc + 1) := by
      have : 1 * (acc + 1) ≤ 10 ^ (k + 1) * (acc + 1) := Nat.mul_le_mul_right _ (Nat.pos_of_ne_zero (by simp))
      omega
    cases l with
    | nil => exact ⟨h10, Nat.le_refl _⟩
    | cons c r =>
      show (if _ then _ else _ : Nat × List UInt8).1 < _ ∧ (if _ then _ else _ : Nat × List UInt8).2.length ≤ _
      split
      · rename_i hc
        obtain ⟨h1, h2⟩ := ih (10 * acc + (c.toNat - 48)) r
        refine ⟨Nat.lt_of_lt_of_le h1 ?_, by simp; omega⟩
        rw [Nat.pow_succ, Nat.mul_assoc]
        exact Nat.mul_le_mul_left _ (by omega)
      · exact ⟨h10, Nat.le_refl _⟩
theorem numF_bd (l : List UInt8) : (numF l).1 < 10000000000000 ∧ (numF l).2.length ≤ l.length := by
  have := numG_bd 13 0 l
  exact ⟨by have h := this.1; simp at h; exact h, this.2⟩

/-- The text before a slash, the text after it. -/
theorem idx_no (a : List UInt8) (h : (47 : UInt8) ∉ a) : index a [47] = -1 := by
  induction a with
  | nil => rfl
  | cons c r ih =>
    have hc : ¬ (47 : UInt8) = c := fun e => h (by simp [e])
    unfold index
    rw [ih (fun hr => h (by simp [hr]))]
    simp [List.isPrefixOf, hc]
theorem idx_at (a b : List UInt8) (h : (47 : UInt8) ∉ a) : index (a ++ 47 :: b) [47] = a.length := by
  induction a with
  | nil => simp [index, List.isPrefixOf]
  | cons c r ih =>
    have hc : ¬ (47 : UInt8) = c := fun e => h (by simp [e])
    have e := ih (fun hr => h (by simp [hr]))
    rw [List.cons_append]
    unfold index
    rw [e]
    have : ¬ ((r.length : Int) = -1) := by omega
    simp [List.isPrefixOf, hc, this]
theorem cut_no (a : List UInt8) (h : (47 : UInt8) ∉ a) : cut a [47] = (a, [], false) := by
  unfold cut; rw [idx_no a h, if_neg (by decide)]
theorem cut_at (a b : List UInt8) (h : (47 : UInt8) ∉ a) : cut (a ++ 47 :: b) [47] = (a, b, true) := by
  unfold cut; rw [idx_at a b h, if_pos (by omega)]
  simp
theorem itoa_no (n : Int) : (47 : UInt8) ∉ itoa n := by
  unfold itoa
  intro h
  have hd : ∀ u, (47 : UInt8) ∉ decDigits u := fun u hu => by have := dec_dig u _ hu; revert this; decide
  split at h
  · rcases List.mem_cons.1 h with h | h
    · revert h; decide
    · exact hd _ h
  · exact hd _ h

/-- The text of a fraction; how it is read. -/
def txtF (n d : Int) : List UInt8 := if d = 1 then itoa n else itoa n ++ 47 :: itoa d
def ptN (s : List UInt8) : NumEnd Int := atoiAll (cut s [47]).1
def ptD (s : List UInt8) : NumEnd Int := if (cut s [47]).2.2 then atoiAll (cut s [47]).2.1 else .ok 1
theorem pr_bd {n d : Int} (h : prB n d = true) : 1 ≤ d ∧ d ≤ 1048576 ∧ -1099511627776 ≤ n ∧ n ≤ 1099511627776 := by
  unfold prB at h; simp at h; omega
theorem pt_txt {n d : Int} (h : prB n d = true) : ptN (txtF n d) = .ok n ∧ ptD (txtF n d) = .ok d := by
  obtain ⟨h1, h2, h3, h4⟩ := pr_bd h
  unfold ptN ptD txtF
  split
  · rename_i e
    rw [cut_no _ (itoa_no n)]
    exact ⟨atoi_itoa n (by omega) (by omega), by rw [e]; rfl⟩
  · rw [cut_at _ _ (itoa_no n)]
    exact ⟨atoi_itoa n (by omega) (by omega), atoi_itoa d (by omega) (by omega)⟩
theorem txt_inj {n d m e : Int} (h1 : prB n d = true) (h2 : prB m e = true) (h : txtF n d = txtF m e) : n = m ∧ d = e := by
  have a := pt_txt h1
  have b := pt_txt h2
  rw [h, b.1, b.2] at a
  obtain ⟨a1, a2⟩ := a
  injection a1 with a1
  injection a2 with a2
  exact ⟨a1.symm, a2.symm⟩
theorem txt_len (n d : Int) (h : prB n d = true) : (txtF n d).length ≤ 43 := by
  obtain ⟨h1, h2, h3, h4⟩ := pr_bd h
  have a := itoa_length_le n (by omega) (by omega)
  have b := itoa_length_le d (by omega) (by omega)
  unfold txtF
  split
  · omega
  · simp; omega

/-- The reference's way of reading. -/
def rsg (s : List UInt8) : Int := if s.head? = some 45 then -1 else 1
def rrs (s : List UInt8) : List UInt8 := if s.head? = some 45 then s.tail else s
def rr1 (s : List UInt8) : List UInt8 := (numF (rrs s)).2
def rpN (s : List UInt8) : Int := ((numF (rrs s)).1 : Int) * rsg s
def rpD (s : List UInt8) : Int := if (rr1 s).head? = some 47 then ((numF (rr1 s).tail).1 : Int) else 1
theorem itoa_head (n : Int) (r : List UInt8) : (if (itoa n ++ r).head? = some 45 then (-1 : Int) else 1) = (if n < 0 then -1 else 1) ∧ (if (itoa n ++ r).head? = some 45 then (itoa n ++ r).tail else itoa n ++ r) = decDigits n.natAbs ++ r := by
  unfold itoa
  by_cases h : n < 0
  · rw [if_pos h]; simp [h]
  · rw [if_neg h]
    obtain ⟨c, t, hc⟩ := List.exists_cons_of_ne_nil (dec_ne n.toNat)
    have hd := dec_dig n.toNat c (by rw [hc]; simp)
    have hne : ¬ c = 45 := fun e => by subst e; revert hd; decide
    have e : n.natAbs = n.toNat := by omega
    rw [e, hc]; simp [h, hne]
theorem rp_txt {n d : Int} (h : prB n d = true) : rpN (txtF n d) = n ∧ rpD (txtF n d) = d := by
  obtain ⟨h1, h2, h3, h4⟩ := pr_bd h
  obtain ⟨r, hr, ht, hd⟩ : ∃ r, (r = [] ∨ ∃ t, r = 47 :: t) ∧ txtF n d = itoa n ++ r ∧ (if r.head? = some 47 then ((numF r.tail).1 : Int) else 1) = d := by
    unfold txtF
    by_cases e : d = 1
    · exact ⟨[], .inl rfl, by rw [if_pos e, List.append_nil], by rw [e]; rfl⟩
    · refine ⟨47 :: itoa d, .inr ⟨_, rfl⟩, by rw [if_neg e], ?_⟩
      have hi : itoa d = decDigits d.toNat := by unfold itoa; rw [if_neg (by omega)]
      have hn := num13 d.toNat (by omega) [] (.inl rfl)
      rw [List.append_nil] at hn
      simp only [List.head?_cons, List.tail_cons, if_true]
      rw [hi, hn]
      show ((d.toNat : Nat) : Int) = d
      omega
  have hh := itoa_head n r
  have e2 : rrs (txtF n d) = decDigits n.natAbs ++ r := by unfold rrs; rw [ht]; exact hh.2
  have e1 : rsg (txtF n d) = if n < 0 then -1 else 1 := by unfold rsg; rw [ht]; exact hh.1
  have hn := num13 n.natAbs (by omega) r hr
  refine ⟨?_, ?_⟩
  · unfold rpN
    rw [e2, e1, hn]
    show ((n.natAbs : Nat) : Int) * _ = n
    split <;> omega
  · unfold rpD rr1
    rw [e2, hn]
    exact hd
end

section
open Go Go.Lib
set_option linter.unusedVariables false

def bs (l : List UInt8) : ByteArray := ⟨l.toArray⟩
theorem bs_data (l : List UInt8) : (bs l).data.toList = l := rfl
theorem bs_app (a b : List UInt8) : bs a ++ bs b = bs (a ++ b) := by
  apply ByteArray.ext
  apply Array.toList_inj.1
  rw [ByteArray.data_append, Array.toList_append]
  rfl
theorem bs_size (l : List UInt8) : (bs l).size = l.length := by show l.toArray.size = _; simp
theorem bs_of (b : ByteArray) : bs b.data.toList = b := by
  apply ByteArray.ext
  apply Array.toList_inj.1
  rfl
/-- Numbers, facts: a blank before each one. -/
def nuL (l : List Int) (k : Nat) : List UInt8 := (l.take k).flatMap fun n => 32 :: itoa n
def fxL (x : Int × Int) : List UInt8 := itoa x.1 ++ 61 :: itoa x.2
def faL (f : List (Int × Int)) (k : Nat) : List UInt8 := (f.take k).flatMap fun x => 32 :: fxL x
def efH (e : Eff) : List UInt8 := [101, 102, 102] ++ faL [(e.var, e.val)] 1
def efL (e : Eff) : List UInt8 := efH e ++ ((if e.whn.length = 0 then [] else [32, 105, 102] ++ faL e.whn e.whn.length) ++ [10])
def opH (o : Opr) : List UInt8 := ([111, 112, 32] ++ itoa o.cost ++ [32] ++ o.name.data.toList ++ [10, 112, 114, 101]) ++ faL o.pre o.pre.length ++ [10]
def opL (o : Opr) (k : Nat) : List UInt8 := opH o ++ (o.effs.take k).flatMap efL
def fmH (t : Tsk) : List UInt8 := [118, 97, 114, 115] ++ nuL t.vars t.vars.length ++ [10, 105, 110, 105, 116] ++ nuL t.init t.init.length ++ [10, 103, 111, 97, 108] ++ faL t.goal t.goal.length ++ [10]
def fmL (t : Tsk) (k : Nat) : List UInt8 := fmH t ++ (t.ops.take k).flatMap fun o => opL o o.effs.length
section
variable {l : List Int} {f : List (Int × Int)} {k : Nat}
theorem take_nth (h : k < l.length) : l.take (k + 1) = l.take k ++ [nth l k] := by
  rw [List.take_succ_eq_append_getElem h]
  unfold nth
  simp [List.getD, h]
theorem take_fac (h : k < f.length) : f.take (k + 1) = f.take k ++ [(fv f k, fx f k)] := by
  have e : (fv f k, fx f k) = f[k] := by unfold fv fx; simp [List.getD, List.getElem?_eq_getElem h]
  rw [e, List.take_succ_eq_append_getElem h]
theorem nuL_zero : nuL l 0 = [] := rfl
theorem nuL_succ (h : k < l.length) : nuL l (k + 1) = nuL l k ++ (32 :: itoa (nth l k)) := by
  unfold nuL
  rw [take_nth h, List.flatMap_append]
  simp
theorem faL_succ (h : k < f.length) : faL f (k + 1) = faL f k ++ (32 :: fxL (fv f k, fx f k)) := by
  unfold faL
  rw [take_fac h, List.flatMap_append]
  simp
theorem itoa_len (n : Int) (h0 : -9223372036854775808 ≤ n) (h1 : n ≤ 9223372036854775807) : (itoa n).length ≤ 21 := itoa_length_le n h0 h1
theorem nuL_len (h : ∀ j, j < l.length → -9223372036854775808 ≤ nth l j ∧ nth l j ≤ 9223372036854775807) : ∀ k, k ≤ l.length → (nuL l k).length ≤ k * 22
  | 0, _ => by rw [nuL_zero]; simp
  | k + 1, hk => by
    have h1 := nuL_len h k (by omega)
    have h2 := itoa_len _ (h k (by omega)).1 (h k (by omega)).2
    rw [nuL_succ (by omega), List.length_append, List.length_cons]
    omega
theorem fxL_len {x y : Int} (h0 : -9223372036854775808 ≤ x) (h1 : x ≤ 9223372036854775807) (h2 : -9223372036854775808 ≤ y) (h3 : y ≤ 9223372036854775807) : (fxL (x, y)).length ≤ 43 := by
  have a := itoa_len x h0 h1
  have b := itoa_len y h2 h3
  show (itoa x ++ 61 :: itoa y).length ≤ 43
  rw [List.length_append, List.length_cons]
  omega
def FacIn (f : List (Int × Int)) : Prop := ∀ j, j < f.length → (0 ≤ fv f j ∧ fv f j ≤ 1000000) ∧ 0 ≤ fx f j ∧ fx f j ≤ 1000000
theorem faL_len (h : FacIn f) : ∀ k, k ≤ f.length → (faL f k).length ≤ k * 44
  | 0, _ => by unfold faL; simp
  | k + 1, hk => by
    have h1 := faL_len h k (by omega)
    have h2 := h k (by omega)
    have h3 := fxL_len (x := fv f k) (y := fx f k) (by omega) (by omega) (by omega) (by omega)
    rw [faL_succ (by omega), List.length_append, List.length_cons]
    omega
end
section
variable {t : Tsk}
theorem fac_in (hr : Right t) {f : List (Int × Int)} (h : faB t.vars f = true) : FacIn f := fun j hj => by
  have h1 := fa_at h hj
  have h2 := hr.nv
  have h3 := hr.dom (fv f j).toNat (by omega)
  omega
theorem efs_at {o : Opr} {k : Nat} (h : k < o.effs.length) : o.effs.take (k + 1) = o.effs.take k ++ [eff o.effs k] := by
  rw [List.take_succ_eq_append_getElem h]
  unfold eff
  simp [List.getD, h]
theorem ops_at {k : Nat} (h : k < t.ops.length) : t.ops.take (k + 1) = t.ops.take k ++ [opr t.ops k] := by
  rw [List.take_succ_eq_append_getElem h]
  unfold opr
  simp [List.getD, h]
theorem opL_succ {o : Opr} {k : Nat} (h : k < o.effs.length) : opL o (k + 1) = opL o k ++ efL (eff o.effs k) := by
  unfold opL
  rw [efs_at h, List.flatMap_append, List.append_assoc]
  simp
theorem fmL_succ {k : Nat} (h : k < t.ops.length) : fmL t (k + 1) = fmL t k ++ opL (opr t.ops k) (opr t.ops k).effs.length := by
  unfold fmL
  rw [ops_at h, List.flatMap_append, List.append_assoc]
  simp
theorem efL_len (hr : Right t) {k j : Nat} (hk : k < t.ops.length) (hj : j < (opr t.ops k).effs.length) : (efL (eff (opr t.ops k).effs j)).length ≤ 3000 := by
  have h1 := hr.eff k hk j hj
  have h2 := hr.nv
  have h3 := hr.dom (eff (opr t.ops k).effs j).var.toNat (by omega)
  have h4 := faL_len (f := [((eff (opr t.ops k).effs j).var, (eff (opr t.ops k).effs j).val)]) (fun i hi => by
    have : i = 0 := by simp at hi; omega
    subst this
    show (0 ≤ (eff (opr t.ops k).effs j).var ∧ _) ∧ 0 ≤ (eff (opr t.ops k).effs j).val ∧ _
    refine ⟨⟨by omega, ?_⟩, by omega, ?_⟩
    · show (eff (opr t.ops k).effs j).var ≤ _; omega
    · show (eff (opr t.ops k).effs j).val ≤ _; omega) 1 (by simp)
  have h5 := faL_len (fac_in hr (hr.whn k hk j hj)) _ (Nat.le_refl _)
  have h6 := hr.nw k hk j hj
  unfold efL efH
  simp only [List.length_append, List.length_cons, List.length_nil]
  split
  · simp only [List.length_nil]; omega
  · simp only [List.length_append, List.length_cons, List.length_nil]; omega
theorem opL_len (hr : Right t) {k : Nat} (hk : k < t.ops.length) (hn : (opr t.ops k).name.size ≤ 256) : ∀ j, j ≤ (opr t.ops k).effs.length → (opL (opr t.ops k) j).length ≤ 4000 + j * 3000
  | 0, _ => by
    have h1 := hr.cost k hk
    have h2 := itoa_len (opr t.ops k).cost (by omega) (by omega)
    have h3 := faL_len (fac_in hr (hr.pre k hk)) _ (Nat.le_refl _)
    have h4 := hr.np k hk
    have h5 : (opr t.ops k).name.data.toList.length = (opr t.ops k).name.size := rfl
    unfold opL opH
    simp only [List.length_append, List.length_cons, List.length_nil, List.take_zero, List.flatMap_nil]
    omega
  | j + 1, hj => by
    have h1 := opL_len hr hk hn j (by omega)
    have h2 := efL_len hr hk (j := j) (by omega)
    rw [opL_succ (by omega), List.length_append]
    omega
theorem fmH_len (hr : Right t) : (fmH t).length ≤ 10000 := by
  have hi := hr.init
  have hn := hr.nv
  unfold stB at hi
  simp only [decide_eq_true_eq] at hi
  obtain ⟨hi1, hi2⟩ := hi
  have h1 := nuL_len (l := t.vars) (fun j hj => by have := hr.dom j hj; omega) _ (Nat.le_refl _)
  have h2 := nuL_len (l := t.init) (fun j hj => by
    have := hi2 j (by omega)
    have := hr.dom j (by omega)
    omega) _ (Nat.le_refl _)
  have h3 := faL_len (fac_in hr hr.goal) _ (Nat.le_refl _)
  have h4 := hr.ng
  unfold fmH
  simp only [List.length_append, List.length_cons, List.length_nil]
  omega
theorem fmL_len (hr : Right t) (hn : ∀ k, k < t.ops.length → (opr t.ops k).name.size ≤ 256) : ∀ k, k ≤ t.ops.length → (fmL t k).length ≤ 10000 + k * 200000
  | 0, _ => by
    have h1 := fmH_len hr
    unfold fmL
    simp only [List.length_append, List.take_zero, List.flatMap_nil, List.length_nil]
    omega
  | k + 1, hk => by
    have h1 := fmL_len hr hn k (by omega)
    have h2 := opL_len hr (k := k) (by omega) (hn k (by omega)) _ (Nat.le_refl _)
    have h3 := hr.ne k (by omega)
    rw [fmL_succ (by omega), List.length_append]
    omega
end
end

section
open Go Go.Lib
set_option linter.unusedVariables false

theorem ix_no {c : UInt8} (a : List UInt8) (h : c ∉ a) : index a [c] = -1 := by
  induction a with
  | nil => rfl
  | cons x r ih =>
    have hc : ¬ c = x := fun e => h (by simp [e])
    unfold index
    rw [ih (fun hr => h (by simp [hr]))]
    simp [List.isPrefixOf, hc]
theorem ix_at {c : UInt8} (a b : List UInt8) (h : c ∉ a) : index (a ++ c :: b) [c] = a.length := by
  induction a with
  | nil => simp [index, List.isPrefixOf]
  | cons x r ih =>
    have hc : ¬ c = x := fun e => h (by simp [e])
    have e := ih (fun hr => h (by simp [hr]))
    rw [List.cons_append]
    unfold index
    rw [e]
    have : ¬ ((r.length : Int) = -1) := by omega
    simp [List.isPrefixOf, hc, this]
theorem ct_no {c : UInt8} (a : List UInt8) (h : c ∉ a) : cut a [c] = (a, [], false) := by
  unfold cut; rw [ix_no a h, if_neg (by decide)]
theorem ct_at {c : UInt8} (a b : List UInt8) (h : c ∉ a) : cut (a ++ c :: b) [c] = (a, b, true) := by
  unfold cut; rw [ix_at a b h, if_pos (by omega)]
  simp
/-- The pieces between the bytes c: one more than there are. -/
def pcs (c : UInt8) : List UInt8 → List (List UInt8)
  | [] => [[]]
  | x :: s => if x = c then [] :: pcs c s else ((x :: (pcs c s).headD []) :: (pcs c s).tail)
theorem pcs_ne (c : UInt8) (s : List UInt8) : pcs c s ≠ [] := by
  cases s with
  | nil => simp [pcs]
  | cons x s => unfold pcs; split <;> simp
theorem pcs_no {c : UInt8} : ∀ (a : List UInt8), c ∉ a → pcs c a = [a]
  | [], _ => rfl
  | x :: a, h => by
    have h1 : ¬ x = c := fun e => h (by simp [e])
    unfold pcs
    rw [if_neg h1, pcs_no a (fun e => h (by simp [e]))]
    rfl
theorem pcs_at {c : UInt8} : ∀ (a b : List UInt8), c ∉ a → pcs c (a ++ c :: b) = a :: pcs c b
  | [], b, _ => by rw [List.nil_append, pcs, if_pos rfl]
  | x :: a, b, h => by
    have h1 : ¬ x = c := fun e => h (by simp [e])
    rw [List.cons_append, pcs, if_neg h1, pcs_at a b (fun e => h (by simp [e]))]
    rfl
/-- A text has the byte or not. -/
theorem at_or (c : UInt8) : ∀ (s : List UInt8), c ∉ s ∨ ∃ a b, s = a ++ c :: b ∧ c ∉ a
  | [] => .inl (by simp)
  | x :: s => by
    by_cases h : x = c
    · exact .inr ⟨[], s, by rw [h]; rfl, by simp⟩
    · rcases at_or c s with h1 | ⟨a, b, rfl, h1⟩
      · exact .inl (by simp [h1]; exact fun e => h e.symm)
      · exact .inr ⟨x :: a, b, rfl, by simp [h1]; exact fun e => h e.symm⟩
theorem split_pcs (c : UInt8) : ∀ (n : Nat) (s : List UInt8), s.length ≤ n → splitK [c] 0 (count s [c]) s = pcs c s ∧ (pcs c s).length = count s [c] + 1 := by
  intro n
  induction n with
  | zero =>
    intro s hs
    obtain rfl : s = [] := List.eq_nil_of_length_eq_zero (by omega)
    rw [count_miss (ix_no [] (by simp))]
    exact ⟨rfl, rfl⟩
  | succ n ih =>
    intro s hs
    rcases at_or c s with h | ⟨a, b, rfl, h⟩
    · rw [count_miss (ix_no s h), pcs_no s h]
      exact ⟨rfl, rfl⟩
    · have h1 := ix_at a b h
      have h2 := count_hit (s := a ++ c :: b) (sub := [c]) (by simp) h1
      have e1 : (a ++ c :: b).drop (a.length + [c].length) = b := by simp
      rw [e1] at h2
      obtain ⟨h3, h4⟩ := ih b (by simp at hs; omega)
      rw [pcs_at a b h, h2]
      refine ⟨?_, by rw [List.length_cons, h4]; omega⟩
      rw [show 1 + count b [c] = count b [c] + 1 by omega]
      unfold splitK
      rw [h1, if_neg (by simp)]
      have e2 : ((a.length : Int).toNat + [c].length) = a.length + [c].length := by simp
      rw [e2, e1, h3]
      simp
/-- What strings.Split hands out. -/
theorem splitB_pcs (c : UInt8) (s : ByteArray) : (splitB ⟨#[c]⟩ 0 (countB s ⟨#[c]⟩) s).map (·.data.toList) = pcs c s.data.toList := by
  rw [splitB_data]
  exact (split_pcs c _ _ (Nat.le_refl _)).1
theorem countB_pcs (c : UInt8) (s : ByteArray) : countB s ⟨#[c]⟩ + 1 = (pcs c s.data.toList).length :=
  (split_pcs c _ s.data.toList (Nat.le_refl _)).2.symm
/-- Pieces put together again. -/
def joinP (c : UInt8) : List (List UInt8) → List UInt8
  | [] => []
  | [p] => p
  | p :: q :: r => p ++ c :: joinP c (q :: r)
theorem pcs_join {c : UInt8} : ∀ (l : List (List UInt8)), l ≠ [] → (∀ p ∈ l, c ∉ p) → pcs c (joinP c l) = l
  | [], h, _ => absurd rfl h
  | [p], _, h => pcs_no p (h p (by simp))
  | p :: q :: r, _, h => by
    rw [joinP, pcs_at p _ (h p (by simp)), pcs_join (q :: r) (by simp) (fun x hx => h x (by simp [hx]))]
theorem join_pcs {c : UInt8} : ∀ (n : Nat) (s : List UInt8), s.length ≤ n → joinP c (pcs c s) = s := by
  intro n
  induction n with
  | zero =>
    intro s hs
    obtain rfl : s = [] := List.eq_nil_of_length_eq_zero (by omega)
    rfl
  | succ n ih =>
    intro s hs
    rcases at_or c s with h | ⟨a, b, rfl, h⟩
    · rw [pcs_no s h]; rfl
    · rw [pcs_at a b h]
      have h3 := ih b (by simp at hs; omega)
      cases e : pcs c b with
      | nil => exact absurd e (pcs_ne c b)
      | cons q r => rw [joinP, ← e, h3]
end

section
open Go Go.Lib
set_option linter.unusedVariables false

/-- The value of digits; what Digits asks. -/
def dval (acc : Nat) (s : List UInt8) : Nat := s.foldl (fun a c => 10 * a + (c.toNat - 48)) acc
theorem dval_nil (acc : Nat) : dval acc [] = acc := by unfold dval; rw [List.foldl_nil]
theorem dval_cons (acc : Nat) (c : UInt8) (r : List UInt8) : dval acc (c :: r) = dval (10 * acc + (c.toNat - 48)) r := by unfold dval; rw [List.foldl_cons]
def isD (c : UInt8) : Bool := decide (48 ≤ c.toNat) && decide (c.toNat ≤ 57)
def dgOk (s : List UInt8) : Bool := (s.all isD && decide (s.length ≤ 7)) && (decide (s ≠ []) && (decide (s.head? ≠ some 48) || decide (s.length = 1)))
theorem isD_iff {c : UInt8} : isD c = true ↔ 48 ≤ c.toNat ∧ c.toNat ≤ 57 := by simp [isD]
theorem isD_of {c : UInt8} (h : isD c = true) : UInt8.ofNat (48 + (c.toNat - 48)) = c := by
  have h1 := isD_iff.1 h
  apply UInt8.toNat_inj.1
  rw [UInt8.toNat_ofNat']
  omega
theorem dval_dec : ∀ (s : List UInt8) (acc : Nat), 0 < acc → s.all isD = true → decDigits (dval acc s) = decDigits acc ++ s
  | [], acc, _, _ => by rw [dval_nil]; simp
  | c :: r, acc, h, hs => by
    rw [List.all_cons, Bool.and_eq_true] at hs
    have hc := isD_iff.1 hs.1
    rw [dval_cons, dval_dec r _ (by omega) hs.2, dec_big (u := 10 * acc + (c.toNat - 48)) (by omega), show (10 * acc + (c.toNat - 48)) / 10 = acc by omega, show (10 * acc + (c.toNat - 48)) % 10 = c.toNat - 48 by omega, isD_of hs.1]
    simp
theorem dig_dec {s : List UInt8} (h : dgOk s = true) : decDigits (dval 0 s) = s := by
  unfold dgOk at h
  simp only [Bool.and_eq_true, Bool.or_eq_true, decide_eq_true_eq] at h
  obtain ⟨⟨h1, h2⟩, h3, h4⟩ := h
  cases s with
  | nil => exact absurd rfl h3
  | cons c r =>
    rw [List.all_cons, Bool.and_eq_true] at h1
    have hc := isD_iff.1 h1.1
    rw [dval_cons]
    by_cases hz : c.toNat = 48
    · rcases h4 with h4 | h4
      · exact absurd (by rw [List.head?_cons]; exact congrArg some (UInt8.toNat_inj.1 hz)) h4
      · have hr : r = [] := List.eq_nil_of_length_eq_zero (by simpa using h4)
        subst hr
        rw [dval_nil, show 10 * 0 + (c.toNat - 48) = c.toNat - 48 by omega, decDigits_one (by omega), isD_of h1.1]
    · rw [dval_dec r _ (by omega) h1.2, decDigits_one (by omega), show 48 + (10 * 0 + (c.toNat - 48)) = 48 + (c.toNat - 48) by omega, isD_of h1.1]
      rfl
theorem dec_head : ∀ (m n : Nat), n ≤ m → 1 ≤ n → (decDigits n).head? ≠ some 48 := by
  intro m
  induction m with
  | zero => intro n h1 h2; omega
  | succ m ih =>
    intro n h1 h2
    by_cases h : n < 10
    · rw [decDigits_one h]
      intro e
      have e2 := congrArg UInt8.toNat (Option.some.inj e)
      rw [UInt8.toNat_ofNat'] at e2
      simp at e2
      omega
    · rw [dec_big h]
      have h3 := ih (n / 10) (by omega) (by omega)
      cases e : decDigits (n / 10) with
      | nil => exact absurd e (dec_ne _)
      | cons x r => rw [e] at h3; simpa using h3
theorem dec_inj {a b : Nat} (ha : a < 10000000000000000) (hb : b < 10000000000000000) (h : decDigits a = decDigits b) : a = b := by
  have e1 : ∀ k : Nat, itoa (k : Int) = decDigits k := fun k => by unfold itoa; rw [if_neg (by omega)]; rfl
  have h1 := atoi_itoa (a : Int) (by omega) (by omega)
  have h2 := atoi_itoa (b : Int) (by omega) (by omega)
  rw [e1, h, ← e1, h2] at h1
  have := NumEnd.ok.inj h1
  omega
theorem dval_lt : ∀ (s : List UInt8) (acc : Nat), s.all isD = true → dval acc s < (acc + 1) * 10 ^ s.length
  | [], acc, _ => by rw [dval_nil]; simp
  | c :: r, acc, hs => by
    rw [List.all_cons, Bool.and_eq_true] at hs
    have hc := isD_iff.1 hs.1
    have h1 := dval_lt r (10 * acc + (c.toNat - 48)) hs.2
    rw [dval_cons, List.length_cons, Nat.pow_succ, Nat.mul_comm (10 ^ r.length) 10, ← Nat.mul_assoc]
    exact Nat.lt_of_lt_of_le h1 (Nat.mul_le_mul_right _ (by omega))
theorem dec_len {n : Nat} (h : n < 10000000) : (decDigits n).length ≤ 7 := by
  have h1 := nd_le 6 n (by simpa using h)
  rw [decDigits_length]
  exact h1
/-- A number's text is what Digits takes, with that value. -/
theorem dec_ok {n : Nat} (h : n < 10000000) : dgOk (decDigits n) = true ∧ dval 0 (decDigits n) = n := by
  have h1 : dgOk (decDigits n) = true := by
    unfold dgOk
    simp only [Bool.and_eq_true, Bool.or_eq_true, decide_eq_true_eq]
    refine ⟨⟨List.all_eq_true.2 fun c hc => isD_iff.2 (dec_dig n c hc), dec_len h⟩, dec_ne n, ?_⟩
    by_cases hz : n = 0
    · subst hz; right; rw [decDigits_one (by omega)]; rfl
    · exact .inl (dec_head n n (Nat.le_refl _) (by omega))
  refine ⟨h1, ?_⟩
  have h2 := dig_dec h1
  have h3 := dval_lt (decDigits n) 0 (List.all_eq_true.2 fun c hc => isD_iff.2 (dec_dig n c hc))
  have h4 : 10 ^ (decDigits n).length ≤ 10 ^ 7 := Nat.pow_le_pow_right (by omega) (dec_len h)
  exact dec_inj (by simp at h3; omega) (by omega) h2
/-- What the program's number takes for good: the same. -/
theorem num_good (s : List UInt8) : (∃ v : Int, atoiAll s = .ok v ∧ s.length ≤ 7 ∧ itoa v = s ∧ 0 ≤ v) ↔ dgOk s = true := by
  constructor
  · rintro ⟨v, h1, h2, h3, h4⟩
    have e : itoa v = decDigits v.toNat := by unfold itoa; rw [if_neg (by omega)]
    rw [e] at h3
    have hv : v.toNat < 10000000 := by
      by_cases hb : v.toNat < 10000000
      · exact hb
      · have h5 : ∀ (m n : Nat), n ≤ m → 10000000 ≤ n → 8 ≤ (decDigits n).length := by
          intro m
          induction m with
          | zero => intro n a b; omega
          | succ m ih =>
            intro n a b
            rw [dec_big (by omega), List.length_append]
            by_cases hc : 10000000 ≤ n / 10
            · have := ih (n / 10) (by omega) hc; omega
            · have h6 : ∀ (k n : Nat), 10 ^ k ≤ n → k + 1 ≤ (decDigits n).length := by
                intro k
                induction k with
                | zero =>
                  intro n _
                  cases e : decDigits n with
                  | nil => exact absurd e (dec_ne n)
                  | cons x r => simp
                | succ k ik =>
                  intro n hn
                  have hp : 10 ^ k * 10 ≤ n := by rw [← Nat.pow_succ]; exact hn
                  have hq : 1 ≤ 10 ^ k := Nat.one_le_pow _ _ (by omega)
                  rw [dec_big (by omega), List.length_append]
                  have := ik (n / 10) (by omega)
                  simp; omega
              have := h6 6 (n / 10) (by simp; omega)
              simp; omega
        have := h5 _ v.toNat (Nat.le_refl _) (by omega)
        rw [h3] at this
        omega
    rw [← h3]
    exact (dec_ok hv).1
  · intro h
    have h1 := dig_dec h
    unfold dgOk at h
    simp only [Bool.and_eq_true, Bool.or_eq_true, decide_eq_true_eq] at h
    obtain ⟨⟨h2, h3⟩, -⟩ := h
    have h4 := dval_lt s 0 h2
    have h5 : 10 ^ s.length ≤ 10 ^ 7 := Nat.pow_le_pow_right (by omega) h3
    have e : itoa ((dval 0 s : Nat) : Int) = s := by unfold itoa; rw [if_neg (by omega)]; exact h1
    refine ⟨(dval 0 s : Nat), ?_, h3, e, by omega⟩
    have := atoi_itoa ((dval 0 s : Nat) : Int) (by omega) (by simp at h4; omega)
    rw [e] at this
    exact this
end

section
open Go Go.Lib
set_option linter.unusedVariables false

def numW (s : List UInt8) : Option Int := if dgOk s = true then some (dval 0 s : Nat) else none
def facW (s : List UInt8) : Option (Int × Int) :=
  if (cut s [61]).2.2 = true then match numW (cut s [61]).1, numW (cut s [61]).2.1 with
    | some a, some b => some (a, b)
    | _, _ => none
  else none
def numsW : List (List UInt8) → Option (List Int)
  | [] => some []
  | s :: r => match numW s, numsW r with
    | some n, some l => some (n :: l)
    | _, _ => none
def facsW : List (List UInt8) → Option (List (Int × Int))
  | [] => some []
  | s :: r => match facW s, facsW r with
    | some n, some l => some (n :: l)
    | _, _ => none
theorem itoa_dec {n : Int} (h : 0 ≤ n) : itoa n = decDigits n.toNat := by unfold itoa; rw [if_neg (by omega)]
theorem numW_itoa {n : Int} (h0 : 0 ≤ n) (h1 : n < 10000000) : numW (itoa n) = some n := by
  have h := dec_ok (n := n.toNat) (by omega)
  rw [itoa_dec h0]
  unfold numW
  rw [if_pos h.1, h.2]
  exact congrArg some (by omega)
theorem numW_back {s : List UInt8} {n : Int} (h : numW s = some n) : itoa n = s ∧ 0 ≤ n := by
  unfold numW at h
  split at h
  · rename_i hd
    have e := Option.some.inj h
    subst e
    exact ⟨by rw [itoa_dec (by omega)]; exact dig_dec hd, by omega⟩
  · cases h
theorem dec_no {c : UInt8} (hc : c.toNat < 48 ∨ 57 < c.toNat) (n : Nat) : c ∉ decDigits n := fun h => by have := dec_dig n c h; omega
theorem itoa_noc {c : UInt8} (hc : c.toNat < 48 ∨ 57 < c.toNat) {n : Int} (h : 0 ≤ n) : c ∉ itoa n := by rw [itoa_dec h]; exact dec_no hc _
theorem facW_text {x y : Int} (h0 : 0 ≤ x) (h1 : x < 10000000) (h2 : 0 ≤ y) (h3 : y < 10000000) : facW (fxL (x, y)) = some (x, y) := by
  have e : cut (fxL (x, y)) [61] = (itoa x, itoa y, true) := ct_at _ _ (itoa_noc (.inr (by decide)) h0)
  unfold facW
  rw [e]
  simp only [if_true, numW_itoa h0 h1, numW_itoa h2 h3]
theorem facW_back {s : List UInt8} {x : Int × Int} (h : facW s = some x) : fxL x = s ∧ 0 ≤ x.1 ∧ 0 ≤ x.2 := by
  unfold facW at h
  split at h
  · rename_i hc
    split at h
    · rename_i a b ea eb
      have e := Option.some.inj h
      subst e
      have h1 := numW_back ea
      have h2 := numW_back eb
      refine ⟨?_, h1.2, h2.2⟩
      rcases at_or 61 s with hn | ⟨p, q, rfl, hn⟩
      · rw [ct_no s hn] at hc; cases hc
      · rw [ct_at p q hn] at h1 h2
        show itoa a ++ 61 :: itoa b = _
        rw [h1.1, h2.1]
    · cases h
  · cases h
end

section
open Go Go.Lib
set_option linter.unusedVariables false

/-- Does the line begin with the word; the words behind it. -/
def isW (word line : List UInt8) : Bool := decide ((pcs 32 line).headD [] = word)
def lineW (word line : List UInt8) : Option (List (List UInt8)) := if isW word line = true then some (pcs 32 line).tail else none
def wVars : List UInt8 := [118, 97, 114, 115]
def wInit : List UInt8 := [105, 110, 105, 116]
def wGoal : List UInt8 := [103, 111, 97, 108]
def wPre : List UInt8 := [112, 114, 101]
def wEff : List UInt8 := [101, 102, 102]
def wIf : List UInt8 := [105, 102]
def effW (line : List UInt8) : Option Eff :=
  match lineW wEff line with
  | some (f :: r) => match facW f with
    | some x => match r with
      | [] => some ⟨[], x.1, x.2⟩
      | [_] => none
      | i :: q => if i = wIf then (facsW q).map fun w => ⟨w, x.1, x.2⟩ else none
    | none => none
  | _ => none
def opW (line : List UInt8) : Option (Int × List UInt8) :=
  if [111, 112, 32].isPrefixOf line = true ∧ (cut (line.drop 3) [32]).2.2 = true then (numW (cut (line.drop 3) [32]).1).map fun n => (n, (cut (line.drop 3) [32]).2.1) else none
/-- The effects ahead, and the lines behind them. -/
def effsW : List (List UInt8) → Option (List Eff × List (List UInt8))
  | [] => some ([], [])
  | l :: r => if isW wEff l = true then match effW l, effsW r with
      | some e, some x => some (e :: x.1, x.2)
      | _, _ => none
    else some ([], l :: r)
def opsW : Nat → List (List UInt8) → Option (List Opr)
  | _, [] => some []
  | 0, _ => none
  | n + 1, h :: r => match opW h, r with
    | some c, p :: q => match (lineW wPre p).bind facsW, effsW q with
      | some f, some x => (opsW n x.2).map fun os => ⟨⟨c.2.toArray⟩, c.1, f, x.1⟩ :: os
      | _, _ => none
    | _, _ => none
def linesW : List (List UInt8) → Option Tsk
  | v :: i :: g :: r => match (lineW wVars v).bind numsW, (lineW wInit i).bind numsW, (lineW wGoal g).bind facsW, opsW r.length r with
    | some a, some b, some c, some d => some ⟨a, b, c, d⟩
    | _, _, _, _ => none
  | _ => none
def taskW (text : List UInt8) : Option Tsk := if (pcs 10 text).getLast? = some [] then linesW (pcs 10 text).dropLast else none
end

section
open Go Go.Lib
set_option linter.unusedVariables false

theorem pcs_words {c : UInt8} : ∀ (ws : List (List UInt8)) (w : List UInt8), c ∉ w → (∀ p ∈ ws, c ∉ p) → pcs c (w ++ ws.flatMap fun p => c :: p) = w :: ws
  | [], w, h, _ => by rw [List.flatMap_nil, List.append_nil, pcs_no w h]
  | p :: r, w, h, h2 => by
    rw [List.flatMap_cons, List.cons_append, pcs_at w _ h, pcs_words r p (h2 p (by simp)) (fun x hx => h2 x (by simp [hx]))]
theorem pcs_lines {c : UInt8} : ∀ (ls : List (List UInt8)), (∀ p ∈ ls, c ∉ p) → pcs c (ls.flatMap fun p => p ++ [c]) = ls ++ [[]]
  | [], _ => rfl
  | p :: r, h => by
    rw [List.flatMap_cons, List.append_assoc, List.singleton_append, pcs_at p _ (h p (by simp)), pcs_lines r (fun x hx => h x (by simp [hx]))]
    rfl
/-- Numbers, facts of a text. -/
def Small (n : Int) : Prop := 0 ≤ n ∧ n < 10000000
theorem numsW_map : ∀ (l : List Int), (∀ n ∈ l, Small n) → numsW (l.map itoa) = some l
  | [], _ => rfl
  | n :: r, h => by
    rw [List.map_cons, numsW, numW_itoa (h n (by simp)).1 (h n (by simp)).2, numsW_map r (fun x hx => h x (by simp [hx]))]
theorem facsW_map : ∀ (f : List (Int × Int)), (∀ x ∈ f, Small x.1 ∧ Small x.2) → facsW (f.map fxL) = some f
  | [], _ => rfl
  | x :: r, h => by
    have h1 := h x (by simp)
    rw [List.map_cons, facsW, facW_text (x := x.1) (y := x.2) h1.1.1 h1.1.2 h1.2.1 h1.2.2, facsW_map r (fun y hy => h y (by simp [hy]))]
theorem nuL_words (l : List Int) : nuL l l.length = (l.map itoa).flatMap fun p => 32 :: p := by
  unfold nuL
  rw [List.take_length, List.flatMap_map]
theorem faL_words (f : List (Int × Int)) : faL f f.length = (f.map fxL).flatMap fun p => 32 :: p := by
  unfold faL
  rw [List.take_length, List.flatMap_map]
theorem fx_noc {c : UInt8} (hc : c.toNat < 48 ∨ 61 < c.toNat) {x : Int × Int} (h : Small x.1 ∧ Small x.2) : c ∉ fxL x := by
  have h1 : c ∉ itoa x.1 := itoa_noc (by omega) h.1.1
  have h2 : c ∉ itoa x.2 := itoa_noc (by omega) h.2.1
  have h3 : ¬ c = 61 := fun e => by rw [e] at hc; revert hc; decide
  unfold fxL
  simp [h1, h2, h3]
theorem line_nums {w : List UInt8} (hw : (32 : UInt8) ∉ w) {l : List Int} (h : ∀ n ∈ l, Small n) : (lineW w (w ++ nuL l l.length)).bind numsW = some l := by
  have e : pcs 32 (w ++ nuL l l.length) = w :: l.map itoa := by
    rw [nuL_words]
    exact pcs_words _ _ hw (fun p hp => by
      obtain ⟨n, hn, rfl⟩ := List.mem_map.1 hp
      exact itoa_noc (.inl (by decide)) (h n hn).1)
  unfold lineW isW
  rw [e]
  simp only [List.headD_cons, decide_true, if_true, List.tail_cons, Option.bind_some]
  exact numsW_map l h
theorem line_facs {w : List UInt8} (hw : (32 : UInt8) ∉ w) {f : List (Int × Int)} (h : ∀ x ∈ f, Small x.1 ∧ Small x.2) : (lineW w (w ++ faL f f.length)).bind facsW = some f := by
  have e : pcs 32 (w ++ faL f f.length) = w :: f.map fxL := by
    rw [faL_words]
    exact pcs_words _ _ hw (fun p hp => by
      obtain ⟨n, hn, rfl⟩ := List.mem_map.1 hp
      exact fx_noc (.inl (by decide)) (h n hn))
  unfold lineW isW
  rw [e]
  simp only [List.headD_cons, decide_true, if_true, List.tail_cons, Option.bind_some]
  exact facsW_map f h
end

section
open Go Go.Lib
set_option linter.unusedVariables false

def effT (e : Eff) : List UInt8 := wEff ++ (fxL (e.var, e.val) :: (if e.whn.length = 0 then [] else wIf :: e.whn.map fxL)).flatMap fun p => 32 :: p
def opT (o : Opr) : List UInt8 := [111, 112, 32] ++ (itoa o.cost ++ 32 :: o.name.data.toList)
def EffS (e : Eff) : Prop := Small e.var ∧ Small e.val ∧ ∀ x ∈ e.whn, Small x.1 ∧ Small x.2
theorem efL_line (e : Eff) : efL e = effT e ++ [10] := by
  unfold efL efH effT
  have h1 : faL [(e.var, e.val)] 1 = 32 :: fxL (e.var, e.val) := by unfold faL; simp
  rw [h1]
  by_cases h : e.whn.length = 0
  · rw [if_pos h, if_pos h]; simp [wEff]
  · rw [if_neg h, if_neg h, faL_words]; simp [wEff, wIf]
theorem effT_words {e : Eff} (h : EffS e) : pcs 32 (effT e) = wEff :: fxL (e.var, e.val) :: (if e.whn.length = 0 then [] else wIf :: e.whn.map fxL) := by
  refine pcs_words _ _ (by decide) (fun p hp => ?_)
  rw [List.mem_cons] at hp
  rcases hp with rfl | hp
  · exact fx_noc (.inl (by decide)) ⟨h.1, h.2.1⟩
  · split at hp
    · cases hp
    · rw [List.mem_cons] at hp
      rcases hp with rfl | hp
      · decide
      · obtain ⟨x, hx, rfl⟩ := List.mem_map.1 hp
        exact fx_noc (.inl (by decide)) (h.2.2 x hx)
theorem effW_text {e : Eff} (h : EffS e) : isW wEff (effT e) = true ∧ effW (effT e) = some e := by
  have e1 := effT_words h
  have h1 : isW wEff (effT e) = true := by unfold isW; rw [e1]; simp
  refine ⟨h1, ?_⟩
  unfold effW lineW
  rw [if_pos h1, e1, List.tail_cons]
  dsimp only
  rw [facW_text h.1.1 h.1.2 h.2.1.1 h.2.1.2]
  dsimp only
  cases hw : e.whn with
  | nil =>
    rw [if_pos (by simp)]
    dsimp only
    cases e; simp_all
  | cons x r =>
    rw [if_neg (by simp), ← hw, hw, List.map_cons]
    dsimp only
    rw [if_pos rfl, ← List.map_cons, facsW_map _ (by rw [← hw]; exact h.2.2)]
    cases e; simp_all
theorem opW_text {o : Opr} (h : Small o.cost) : opW (opT o) = some (o.cost, o.name.data.toList) := by
  have e1 : (opT o).drop 3 = itoa o.cost ++ 32 :: o.name.data.toList := rfl
  have e2 : cut ((opT o).drop 3) [32] = (itoa o.cost, o.name.data.toList, true) := by rw [e1]; exact ct_at _ _ (itoa_noc (.inl (by decide)) h.1)
  have e3 : [111, 112, 32].isPrefixOf (opT o) = true := rfl
  unfold opW
  rw [e2, if_pos ⟨e3, rfl⟩, numW_itoa h.1 h.2]
  rfl
theorem opH_lines (o : Opr) : opH o = opT o ++ [10] ++ (wPre ++ faL o.pre o.pre.length ++ [10]) := by
  unfold opH opT wPre
  simp
end

section
open Go Go.Lib
set_option linter.unusedVariables false

/-- The lines of an operator. -/
def opLs (o : Opr) : List (List UInt8) := opT o :: (wPre ++ faL o.pre o.pre.length) :: o.effs.map effT
def OpS (o : Opr) : Prop := Small o.cost ∧ (∀ x ∈ o.pre, Small x.1 ∧ Small x.2) ∧ ∀ e ∈ o.effs, EffS e
theorem effsW_text : ∀ (es : List Eff) (r : List (List UInt8)), (∀ e ∈ es, EffS e) → (r = [] ∨ ∃ o q, r = opT o :: q ∧ Small o.cost) → effsW (es.map effT ++ r) = some (es, r)
  | [], r, _, h => by
    rcases h with rfl | ⟨o, q, rfl, ho⟩
    · rfl
    · rw [List.map_nil, List.nil_append, effsW, if_neg ?_]
      unfold isW opT
      have e : pcs 32 ([111, 112, 32] ++ (itoa o.cost ++ 32 :: o.name.data.toList)) = [111, 112] :: pcs 32 (itoa o.cost ++ 32 :: o.name.data.toList) := pcs_at [111, 112] _ (by decide)
      rw [e, List.headD_cons]
      decide
  | e :: es, r, h, h2 => by
    have h1 := effW_text (h e (by simp))
    rw [List.map_cons, List.cons_append, effsW, if_pos h1.1, h1.2, effsW_text es r (fun x hx => h x (by simp [hx])) h2]
theorem opsW_text : ∀ (os : List Opr) (n : Nat), (∀ o ∈ os, OpS o) → (os.flatMap opLs).length ≤ n → opsW n (os.flatMap opLs) = some os
  | [], n, _, _ => by cases n <;> rfl
  | o :: os, n, h, hn => by
    have ho := h o (by simp)
    cases n with
    | zero => rw [List.flatMap_cons, List.length_append] at hn; simp [opLs] at hn
    | succ n =>
      have h3 : os.flatMap opLs = [] ∨ ∃ o q, os.flatMap opLs = opT o :: q ∧ Small o.cost := by
        cases os with
        | nil => exact .inl rfl
        | cons p q => exact .inr ⟨p, _, by rw [List.flatMap_cons]; rfl, (h p (by simp)).1⟩
      have h4 := effsW_text o.effs (os.flatMap opLs) ho.2.2 h3
      have e : (o :: os).flatMap opLs = opT o :: (wPre ++ faL o.pre o.pre.length) :: (o.effs.map effT ++ os.flatMap opLs) := by rw [List.flatMap_cons]; rfl
      rw [e, List.length_cons, List.length_cons, List.length_append] at hn
      have h5 := opsW_text os n (fun x hx => h x (by simp [hx])) (by omega)
      rw [e]
      simp only [opsW, opW_text ho.1, line_facs (w := wPre) (by decide) ho.2.1, h4, h5]
      rfl
/-- The lines of a task. -/
def lnsT (t : Tsk) : List (List UInt8) := (wVars ++ nuL t.vars t.vars.length) :: (wInit ++ nuL t.init t.init.length) :: (wGoal ++ faL t.goal t.goal.length) :: t.ops.flatMap opLs
structure TskS (t : Tsk) : Prop where
  vars : ∀ n ∈ t.vars, Small n
  init : ∀ n ∈ t.init, Small n
  goal : ∀ x ∈ t.goal, Small x.1 ∧ Small x.2
  ops : ∀ o ∈ t.ops, OpS o
theorem linesW_text {t : Tsk} (h : TskS t) : linesW (lnsT t) = some t := by
  simp only [lnsT, linesW, line_nums (w := wVars) (by decide) h.vars, line_nums (w := wInit) (by decide) h.init, line_facs (w := wGoal) (by decide) h.goal, opsW_text t.ops _ h.ops (Nat.le_refl _)]
end

section
open Go Go.Lib
set_option linter.unusedVariables false

theorem effs_lines : ∀ (es : List Eff), es.flatMap efL = (es.map effT).flatMap fun p => p ++ [10]
  | [] => rfl
  | e :: es => by rw [List.flatMap_cons, List.map_cons, List.flatMap_cons, effs_lines es, efL_line]
theorem op_lines (o : Opr) : opL o o.effs.length = (opLs o).flatMap fun p => p ++ [10] := by
  unfold opL opLs
  rw [List.take_length, effs_lines, opH_lines, List.flatMap_cons, List.flatMap_cons]
  simp only [List.append_assoc]
theorem ops_lines : ∀ (os : List Opr), (os.flatMap fun o => opL o o.effs.length) = (os.flatMap opLs).flatMap fun p => p ++ [10]
  | [] => rfl
  | o :: os => by rw [List.flatMap_cons, List.flatMap_cons, List.flatMap_append, ops_lines os, op_lines]
theorem fmL_lines (t : Tsk) : fmL t t.ops.length = (lnsT t).flatMap fun p => p ++ [10] := by
  unfold fmL lnsT fmH
  rw [List.take_length, ops_lines]
  simp [wVars, wInit, wGoal]
/-- No line holds a line's end. -/
theorem taskW_text {t : Tsk} (h : TskS t) (hl : ∀ p ∈ lnsT t, (10 : UInt8) ∉ p) : taskW (fmL t t.ops.length) = some t := by
  unfold taskW
  rw [fmL_lines, pcs_lines _ hl]
  simp [linesW_text h]
end

section
open Go Go.Lib
set_option linter.unusedVariables false

theorem effsW_len : ∀ {q : List (List UInt8)} {x}, effsW q = some x → x.2.length ≤ q.length
  | [], x, h => by
    rw [effsW] at h; cases h; simp
  | l :: r, x, h => by
    rw [effsW] at h
    split at h
    · split at h
      · rename_i e y h1 h2
        cases h
        have := effsW_len h2
        simp; omega
      · cases h
    · cases h; simp
/-- The lines of one operator. -/
def opS : List (List UInt8) → Option (Opr × List (List UInt8))
  | h :: p :: q => match opW h, (lineW wPre p).bind facsW, effsW q with
    | some c, some f, some x => some (⟨⟨c.2.toArray⟩, c.1, f, x.1⟩, x.2)
    | _, _, _ => none
  | _ => none
theorem opS_len {ls : List (List UInt8)} {x} (h : opS ls = some x) : x.2.length + 2 ≤ ls.length := by
  unfold opS at h
  split at h
  · split at h
    · rename_i h1 h2 h3
      cases h
      have := effsW_len h3
      simp; omega
    · cases h
  · cases h
theorem opsW_step (n : Nat) (h : List UInt8) (r : List (List UInt8)) : opsW (n + 1) (h :: r) = (opS (h :: r)).bind fun x => (opsW n x.2).map (x.1 :: ·) := by
  cases r with
  | nil => cases e1 : opW h <;> simp [opsW, opS, e1]
  | cons p q =>
    cases e1 : opW h with
    | none => simp [opsW, opS, e1]
    | some c =>
      cases e2 : (lineW wPre p).bind facsW with
      | none => simp [opsW, opS, e1, e2]
      | some f => cases e3 : effsW q <;> simp [opsW, opS, e1, e2, e3]
theorem opsW_fuel : ∀ (m n : Nat) (ls : List (List UInt8)), ls.length ≤ m → ls.length ≤ n → opsW m ls = opsW n ls
  | _, _, [], _, _ => by simp [opsW]
  | 0, _, _ :: _, h, _ => by simp at h
  | _ + 1, 0, _ :: _, _, h => by simp at h
  | m + 1, n + 1, h :: r, h1, h2 => by
    rw [opsW_step, opsW_step]
    cases e : opS (h :: r) with
    | none => rfl
    | some x =>
      have := opS_len e
      simp only [Option.bind_some]
      rw [opsW_fuel m n x.2 (by simp at *; omega) (by simp at *; omega)]
/-- Operators to the end of the lines. -/
def opsF (ls : List (List UInt8)) : Option (List Opr) := opsW ls.length ls
theorem opsF_nil : opsF [] = some [] := rfl
theorem opsF_step (h : List UInt8) (r : List (List UInt8)) : opsF (h :: r) = (opS (h :: r)).bind fun x => (opsF x.2).map (x.1 :: ·) := by
  unfold opsF
  rw [List.length_cons, opsW_step]
  cases e : opS (h :: r) with
  | none => rfl
  | some x =>
    have := opS_len e
    simp only [Option.bind_some]
    rw [opsW_fuel r.length x.2.length x.2 (by simp at *; omega) (Nat.le_refl _)]
theorem linesW_def (v i g : List UInt8) (r : List (List UInt8)) : linesW (v :: i :: g :: r) = match (lineW wVars v).bind numsW, (lineW wInit i).bind numsW, (lineW wGoal g).bind facsW, opsF r with
    | some a, some b, some c, some d => some ⟨a, b, c, d⟩
    | _, _, _, _ => none := rfl
/-- The operators behind an operator that is still open. -/
def contW (o : Opr) (ls : List (List UInt8)) : Option (List Opr) := (effsW ls).bind fun x => (opsF x.2).map (⟨o.name, o.cost, o.pre, o.effs ++ x.1⟩ :: ·)
theorem contW_nil (o : Opr) : contW o [] = some [o] := by
  unfold contW; rw [effsW]; simp [opsF_nil]
theorem contW_eff {o : Opr} {l : List UInt8} {r : List (List UInt8)} {e : Eff} (h : effW l = some e) : contW o (l :: r) = contW ⟨o.name, o.cost, o.pre, o.effs ++ [e]⟩ r := by
  have h1 : isW wEff l = true := by
    unfold effW lineW at h
    split at h
    · rename_i hh; split at hh
      · assumption
      · cases hh
    · cases h
  unfold contW
  rw [effsW, if_pos h1, h]
  cases e2 : effsW r with
  | none => rfl
  | some x => simp
theorem contW_op {o : Opr} {l : List UInt8} {r : List (List UInt8)} (h : isW wEff l = false) : contW o (l :: r) = (opsF (l :: r)).map (o :: ·) := by
  unfold contW
  rw [effsW, if_neg (by rw [h]; decide)]
  simp
theorem contW_bad {o : Opr} {l : List UInt8} {r : List (List UInt8)} (h : isW wEff l = true) (h2 : effW l = none) : contW o (l :: r) = none := by
  unfold contW
  rw [effsW, if_pos h, h2]
  rfl
theorem opsF_open {l p : List UInt8} {q : List (List UInt8)} {c : Int × List UInt8} {f : List (Int × Int)} (h1 : opW l = some c) (h2 : (lineW wPre p).bind facsW = some f) : opsF (l :: p :: q) = contW ⟨⟨c.2.toArray⟩, c.1, f, []⟩ q := by
  rw [opsF_step, opS, h1, h2]
  unfold contW
  cases effsW q with
  | none => rfl
  | some x => simp
theorem opsF_no {l : List UInt8} {r : List (List UInt8)} (h : opW l = none) : opsF (l :: r) = none := by
  rw [opsF_step]
  cases r with
  | nil => rfl
  | cons p q => rw [opS, h]; rfl
theorem opsF_one (l : List UInt8) : opsF [l] = none := by rw [opsF_step]; rfl
theorem opsF_pre {l p : List UInt8} {q : List (List UInt8)} (h : (lineW wPre p).bind facsW = none) : opsF (l :: p :: q) = none := by
  rw [opsF_step, opS, h]
  cases opW l <;> rfl
/-- A line that begins with eff is no operator's. -/
theorem opW_eff {l : List UInt8} (h : isW wEff l = true) : opW l = none := by
  unfold opW
  rw [if_neg]
  rintro ⟨h1, -⟩
  unfold isW at h
  have h2 := of_decide_eq_true h
  match l, h1, h2 with
  | x :: y, h1, h2 =>
    have hx : x = 111 := by
      simp [List.isPrefixOf] at h1
      exact h1.1.symm
    subst hx
    rw [pcs, if_neg (by decide)] at h2
    simp [wEff] at h2
end

section
open Go Go.Lib
set_option linter.unusedVariables false

theorem joinP_flat (c : UInt8) : ∀ (ws : List (List UInt8)) (w : List UInt8), joinP c (w :: ws) = w ++ ws.flatMap fun p => c :: p
  | [], w => by simp [joinP]
  | p :: r, w => by rw [joinP, joinP_flat c r p, List.flatMap_cons]; simp
theorem joinP_last (c : UInt8) : ∀ (ls : List (List UInt8)), joinP c (ls ++ [[]]) = ls.flatMap fun p => p ++ [c]
  | [] => rfl
  | [p] => by simp [joinP]
  | p :: q :: r => by
    rw [List.cons_append, List.cons_append, joinP, List.flatMap_cons, ← List.cons_append, joinP_last c (q :: r)]
    simp
theorem numsW_back : ∀ {ws : List (List UInt8)} {l : List Int}, numsW ws = some l → l.map itoa = ws
  | [], l, h => by rw [numsW] at h; cases h; rfl
  | s :: r, l, h => by
    rw [numsW] at h
    split at h
    · rename_i n k h1 h2
      cases h
      rw [List.map_cons, (numW_back h1).1, numsW_back h2]
    · cases h
theorem facsW_back : ∀ {ws : List (List UInt8)} {l : List (Int × Int)}, facsW ws = some l → l.map fxL = ws
  | [], l, h => by rw [facsW] at h; cases h; rfl
  | s :: r, l, h => by
    rw [facsW] at h
    split at h
    · rename_i n k h1 h2
      cases h
      rw [List.map_cons, (facW_back h1).1, facsW_back h2]
    · cases h
theorem lineW_back {w line : List UInt8} {ws : List (List UInt8)} (h : lineW w line = some ws) : line = w ++ ws.flatMap fun p => 32 :: p := by
  unfold lineW isW at h
  split at h
  · rename_i h1
    have h2 := of_decide_eq_true h1
    have h3 := Option.some.inj h
    rw [← joinP_flat, ← h2, ← h3]
    have h4 := pcs_ne 32 line
    rw [show ((pcs 32 line).headD [] :: (pcs 32 line).tail) = pcs 32 line by
      cases e : pcs 32 line with
      | nil => exact absurd e h4
      | cons x y => rfl]
    exact (join_pcs _ line (Nat.le_refl _)).symm
  · cases h
theorem line_nums_back {w line : List UInt8} {l : List Int} (h : (lineW w line).bind numsW = some l) : line = w ++ nuL l l.length := by
  obtain ⟨ws, h1, h2⟩ := Option.bind_eq_some_iff.1 h
  rw [nuL_words, numsW_back h2]
  exact lineW_back h1
theorem line_facs_back {w line : List UInt8} {l : List (Int × Int)} (h : (lineW w line).bind facsW = some l) : line = w ++ faL l l.length := by
  obtain ⟨ws, h1, h2⟩ := Option.bind_eq_some_iff.1 h
  rw [faL_words, facsW_back h2]
  exact lineW_back h1
theorem effW_back {line : List UInt8} {e : Eff} (h : effW line = some e) : line = effT e := by
  unfold effW at h
  split at h
  · rename_i f r h1
    rw [lineW_back h1]
    split at h
    · rename_i x h2
      have hx := (facW_back h2).1
      split at h
      · cases h
        unfold effT
        rw [show ((x.1, x.2) : Int × Int) = x from rfl, hx]
        simp
      · cases h
      · rename_i i q hq
        split at h
        · rename_i hi
          cases e2 : facsW q with
          | none => rw [e2] at h; cases h
          | some wn =>
            rw [e2] at h
            have h3 := facsW_back e2
            cases h
            unfold effT
            rw [show ((x.1, x.2) : Int × Int) = x from rfl, hx, hi]
            have hne : ¬ wn.length = 0 := by
              intro h0
              have : q.length = 0 := by rw [← h3, List.length_map]; exact h0
              exact hq (List.eq_nil_of_length_eq_zero this)
            dsimp only
            rw [if_neg hne, h3]
        · cases h
    · cases h
  · cases h
theorem opW_back {line : List UInt8} {c : Int × List UInt8} (h : opW line = some c) (pre : List (Int × Int)) (es : List Eff) : line = opT ⟨⟨c.2.toArray⟩, c.1, pre, es⟩ := by
  unfold opW at h
  split at h
  · rename_i hc
    obtain ⟨h1, h2⟩ := hc
    obtain ⟨t, ht⟩ := List.isPrefixOf_iff_prefix.1 h1
    have hd : line.drop 3 = t := by rw [← ht]; rfl
    rw [hd] at h h2
    rcases at_or 32 t with hn | ⟨a, b, rfl, hn⟩
    · rw [ct_no t hn] at h2; cases h2
    · rw [ct_at a b hn] at h
      cases e : numW a with
      | none => rw [e] at h; cases h
      | some n =>
        rw [e] at h
        cases h
        unfold opT
        dsimp only
        rw [(numW_back e).1, ← ht]
  · cases h
theorem effsW_back : ∀ {q : List (List UInt8)} {x}, effsW q = some x → q = x.1.map effT ++ x.2
  | [], x, h => by rw [effsW] at h; cases h; rfl
  | l :: r, x, h => by
    rw [effsW] at h
    split at h
    · split at h
      · rename_i e y h1 h2
        cases h
        dsimp only
        rw [List.map_cons, List.cons_append, ← effsW_back h2, ← effW_back h1]
      · cases h
    · cases h; rfl
theorem opS_back {ls : List (List UInt8)} {x} (h : opS ls = some x) : ls = opLs x.1 ++ x.2 := by
  unfold opS at h
  split at h
  · rename_i h' p q
    split at h
    · rename_i c f y h1 h2 h3
      cases h
      unfold opLs
      dsimp only
      rw [List.cons_append, List.cons_append, ← effsW_back h3, ← line_facs_back h2, ← opW_back h1]
    · cases h
  · cases h
theorem opsF_back : ∀ (n : Nat) {ls : List (List UInt8)} {os : List Opr}, ls.length ≤ n → opsF ls = some os → ls = os.flatMap opLs
  | _, [], os, _, h => by rw [opsF_nil] at h; cases h; rfl
  | 0, _ :: _, _, h, _ => by simp at h
  | n + 1, l :: r, os, hn, h => by
    rw [opsF_step] at h
    obtain ⟨x, h1, h2⟩ := Option.bind_eq_some_iff.1 h
    obtain ⟨os', h3, rfl⟩ := Option.map_eq_some_iff.1 h2
    have := opS_len h1
    rw [List.flatMap_cons, ← opsF_back n (by simp at *; omega) h3]
    exact opS_back h1
theorem linesW_back {ls : List (List UInt8)} {t : Tsk} (h : linesW ls = some t) : ls = lnsT t := by
  match ls, h with
  | v :: i :: g :: r, h =>
    rw [linesW_def] at h
    split at h
    · rename_i a b c d h1 h2 h3 h4
      cases h
      unfold lnsT
      dsimp only
      rw [← opsF_back _ (Nat.le_refl _) h4, ← line_nums_back h1, ← line_nums_back h2, ← line_facs_back h3]
    · cases h
theorem taskW_back {s : List UInt8} {t : Tsk} (h : taskW s = some t) : fmL t t.ops.length = s := by
  unfold taskW at h
  split at h
  · rename_i h1
    rw [fmL_lines, ← linesW_back h, ← joinP_last]
    have h2 : (pcs 10 s).dropLast ++ [[]] = pcs 10 s := by
      have := List.dropLast_concat_getLast (pcs_ne 10 s)
      rw [List.getLast?_eq_some_getLast (pcs_ne 10 s)] at h1
      rw [Option.some.inj h1] at this
      exact this
    rw [h2]
    exact join_pcs _ s (Nat.le_refl _)
  · cases h
end

end Go.Proofs.YtbcbmpnikgeoeaaDoor

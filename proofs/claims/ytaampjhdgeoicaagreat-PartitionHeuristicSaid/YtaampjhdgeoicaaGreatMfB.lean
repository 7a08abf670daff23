/- Texts laid together: Tail, FracS, Mul64, FracH, FracP, FracI, FracJ, FracK, FracQ. -/
import Derived.Test.YtaampjhdgeoicaaGreatMfA
import Derived.StillTail
import Derived.Shelf.Bits.Mul64
import Derived.Deep.RegionHeld3
namespace Go.Proofs.YtaampjhdgeoicaaGreat
set_option linter.unusedSimpArgs false
set_option linter.unusedVariables false
section
open Go Go.RowKit

section
variable {P : Program} {ops : Array Oper} {md : Region.Mode} {C : World → Prop}

/-- f operations of the head, in whatever order; then L. -/
def headQ (P : Program) (md : Region.Mode) (ops : Array Oper) (C : World → Prop) (n : Nat) (L : Array Bool → Act → Prop) : Nat → Array Bool → Act → Prop
 | 0, l, a => L l a
 | f + 1, l, a => Region.ready md ops l ≠ [] ∧ ∀ i ∈ Region.ready md ops l, i < n ∧ qOp P ops C i (headQ P md ops C n L f (l.setIfInBounds i true)) a

theorem head_wp {n g : Nat} {L : Array Bool → Act → Prop} {Q : Exit → Act → World → Prop} (hL : ∀ l a w, C w → L l a → wpAny P md ops Q g l a w) :
  ∀ (f : Nat) (l : Array Bool) (a : Act) (w : World), C w → headQ P md ops C n L f l a → wpAny P md ops Q (f + g) l a w := by
 intro f
 induction f with
 | zero => intro l a w hw h; rw [Nat.zero_add]; exact hL _ _ _ hw h
 | succ f ih =>
  intro l a w hw h
  rw [Nat.succ_add_eq_add_succ, Nat.add_succ]
  exact ⟨fun h0 => absurd h0 h.1, fun i hi => wpOp_of_qOp hw (fun a' w' hw' h' => ih _ a' w' hw' h') (h.2 i hi).2⟩

theorem head_first {n i : Nat} {oi : Oper} {v : Value} {L : Array Bool → Act → Prop} (hi : ops[i]? = some oi) (hsel : ∀ (j : Nat) (o : Oper) cs b, ops[j]? = some o → o.op ≠ .select cs b)
  (hs : Region.sinkB md ops n = true) (hc : Region.chainB md ops n = true) (hn : n < ops.size) (hin : i < n)
  (hdone : ∀ l a, L l a → ∀ j ∈ Region.ready md ops l, n ≤ j) :
  ∀ (f : Nat) (l : Array Bool) (a : Act), HeadInv md ops n l →
   (∀ j oj, ops[j]? = some oj → j ≠ i → l.getD j true = false → (∀ e ∈ oj.after, Region.binds md e = true → e.on ≠ i) → oi.apart ops oj = true) →
   i ∈ Region.ready md ops l → YieldsIn P ops C oi v a →
   headQ P md ops C n L f (l.setIfInBounds i true) (a.put oi.dst v) → headQ P md ops C n L (f + 1) l a := by
 intro f
 induction f with
 | zero =>
  intro l a inv _ hr hy H
  refine ⟨fun h => (by rw [h] at hr; cases hr), fun j hj => ?_⟩
  have hjn : j < n := Nat.lt_of_not_le fun h => tail_waits hs hc hn inv _ i rfl hin (mem_ready.1 hr).1 j h hj
  refine ⟨hjn, ?_⟩
  by_cases hji : j = i
  ·subst hji; exact hy.qOp hi H
  ·have := hdone _ _ H j (ready_mono hj hji)
   omega
 | succ f ih =>
  intro l a inv hfree hr hy H
  refine ⟨fun h => (by rw [h] at hr; cases hr), fun j hj => ?_⟩
  have hjn : j < n := Nat.lt_of_not_le fun h => tail_waits hs hc hn inv _ i rfl hin (mem_ready.1 hr).1 j h hj
  refine ⟨hjn, ?_⟩
  by_cases hji : j = i
  ·subst hji; exact hy.qOp hi H
  ·obtain ⟨hjun, oj, hoj, hall⟩ := mem_ready.1 hj
   have hnot : ∀ e ∈ oj.after, Region.binds md e = true → e.on ≠ i := fun e he hb heq => by
    have h1 := hall e he hb
    rw [heq, getD_both (mem_ready.1 hr).1] at h1
    cases h1
   have h2 := qOp_put hoj (hfree j oj hoj hji hjun hnot) (fun cs b => hsel i oi cs b hi) (fun cs b => hsel j oj cs b hoj) hy (H.2 j (ready_mono hj hji)).2
   refine qOp_mono (fun a' h3 => ih (l.setIfInBounds j true) a' (inv.set hj hjn) ?_ (ready_mono hr (Ne.symm hji)) h3.1 ?_) h2
   ·intro k ok hk hki hun hno
    refine hfree k ok hk hki ?_ hno
    by_cases hjk : j = k
    ·subst hjk; exact hjun
    ·rw [getD_set_ne true hjk] at hun; exact hun
   ·rw [Array.setIfInBounds_comm _ _ hji]
    exact h3.2

theorem head_lex {n g : Nat} {K : Act → Prop} (hsel : Region.noSelect ops = true) (hs : Region.sinkB md ops n = true) (hc : Region.chainB md ops n = true) (hn : n < ops.size) :
  ∀ (os : List Oper) (k : Nat) (l : Array Bool) (a : Act), (∀ j, j < os.length → os[j]? = ops[k + j]?) → k + os.length = n → HeadInv md ops n l →
  Region.lexHead md ops g os.length k l = true → wpQuiet P ops C K os a →
  headQ P md ops C n (fun l' a' => Region.seqB md ops g n l' = true ∧ K a') os.length l a := by
 intro os
 induction os with
 | nil =>
  intro k l a _ hk _ hB h
  obtain rfl : k = n := by simpa using hk
  exact ⟨by simpa [Region.lexHead] using hB, h⟩
 | cons o os ih =>
  intro k l a hl hk inv hB h
  have h0 : ops[k]? = some o := by simpa using (hl 0 (by simp)).symm
  simp only [List.length_cons, Region.lexHead, Bool.and_eq_true] at hB hk
  obtain ⟨⟨hr, hf⟩, hB'⟩ := hB
  have hr' : k ∈ Region.ready md ops l := by simpa using hr
  have hst : qOp P ops C k (wpQuiet P ops C K os) a := by unfold qOp; simp only [h0]; exact h
  obtain ⟨v, hy, hK⟩ := yieldsIn_of_qOp h0 hst
  refine head_first h0 (Region.noSelect_spec hsel) hs hc hn (by omega) (fun l' a' hL => seqB_ready hL.1) os.length l a inv (Region.free_spec h0 hf) hr' hy ?_
  refine ih (k + 1) _ _ (fun j hj => ?_) (by omega) (inv.set hr' (by omega)) hB' hK
  have := hl (j + 1) (by simp; omega)
  simpa [Nat.add_assoc, Nat.add_comm 1 j] using this
end

/-- The head: reads, and calls that leave what was there; then the tail, one operation behind the other. -/
theorem wp_region_aft_tail {P : Program} {id : Nat} {Q : Exit → Act → World → Prop} {a : Act} {w : World} {l : List Oper} {B : Nat} (n : Nat) (hm : P.follows .mixedOrders = true) (hB : Region.lexTailB .any l.toArray n = true) (hs : w.heap.size = B)
  (h : (∀ (x : Aft w) (b o : Nat), x.w.cell? ⟨b, o, none⟩ = if b < B then w.cell? ⟨b, o, none⟩ else hidC x.w b o) →
   wpQuiet P l.toArray (fun u => ∃ x : Aft w, u = x.w) (fun a' => ∀ w', (∃ x : Aft w, w' = x.w) → wpList P l.toArray Q (l.drop n) a' w') (l.take n) a) : (Code.region id l.toArray true).wp P Q a w := by
 have h := h fun x => (cellsIf x.below hs).1
 simp only [Region.lexTailB, Bool.and_eq_true, decide_eq_true_eq] at hB
 obtain ⟨⟨⟨⟨hsel, hn⟩, hsk⟩, hc⟩, hlex⟩ := hB
 have hn' : n < l.length := by simpa using hn
 have htl : (l.take n).length = n := by simp; omega
 have hdl : (l.drop n).length = l.toArray.size - n := by simp
 have inv0 : HeadInv .any l.toArray n (Array.replicate l.toArray.size false) :=
  ⟨by simp, fun j oj _ hl => (by rw [getD_replicate_false] at hl; cases hl), fun t _ ht => getD_in (by simpa using ht) (getD_replicate_false _ _)⟩
 have H := head_lex (md := .any) (g := l.toArray.size - n) hsel hsk hc hn (l.take n) 0 _ a (fun j hj => by
  have hj' : j < n := by rw [htl] at hj; exact hj
  simp [hj']) (by simpa using htl) inv0 (by rw [htl]; exact hlex) h
 refine wp_region_any hm ?_
 have := head_wp (Q := Q) (g := l.toArray.size - n) (fun l' a' w' hw' hL => by
  have := wpAny_of_seq (md := .any) (Q' := Q) (l.drop n) n l' a' w' (fun j => by simp [List.getElem?_drop]) (by rw [hdl]; exact hL.1) (hL.2 w' hw')
  rwa [hdl] at this) _ _ _ _ (show (∃ x : Aft w, { w with drawn := w.drawn + 1 } = x.w) from ⟨⟨_, (Below.refl _ _).drew⟩, rfl⟩) H
 rw [htl, show n + (l.toArray.size - n) = l.toArray.size by omega] at this
 exact this
end

section
theorem divInt_red {n d : Int} (hd : 1 ≤ d) (hg : gI n d = 1) : (Rat.divInt n d).num = n ∧ ((Rat.divInt n d).den : Int) = d := by
 rw [num_pos n d hd, den_pos n d hd, hg]; simp
theorem toF_red {n d : Int} (hd : 1 ≤ d) (hg : gI n d = 1) : toF (Rat.divInt n d) = if aI n > 1099511627776 ∨ d > 1048576 then (0, 0, 5) else (n, d, 0) := by
 obtain ⟨h1, h2⟩ := divInt_red hd hg
 unfold toF; rw [h1, h2]
theorem madeF_rat (minus : Bool) (x y : Int) (hx : 0 ≤ x) (hy : 1 ≤ y) : madeF minus x y = toF (Rat.divInt (if minus then -x else x) y) := by
 rw [← newG_rat _ _ hy, newG_made _ _ hy]
 by_cases h0 : x = 0
 ·subst h0; cases minus <;> simp [madeF, aI]
 ·cases minus
  ·have e1 : aI x = x := by unfold aI; omega
   have e2 : decide (x < 0) = false := by simp; omega
   simp [e1, e2]
  ·have e1 : aI (-x) = x := by unfold aI; omega
   have e2 : decide (-x < 0) = true := by simp; omega
   rw [if_pos rfl, e1, e2]
/-- A number and a positive one by their greatest common divisor. -/
theorem gcd_parts (a b : Int) (hb : 1 ≤ b) : ∃ u v, a = gI a b * u ∧ b = gI a b * v ∧ gI u v = 1 ∧ 1 ≤ v ∧ a.tdiv (gI a b) = u ∧ b / gI a b = v := by
 have hg := gI_pos a b hb
 have h1 : gI a b ∣ a := by unfold gI; exact Int.gcd_dvd_left a b
 have h2 : gI a b ∣ b := by unfold gI; exact Int.gcd_dvd_right a b
 obtain ⟨u, hu⟩ := h1
 obtain ⟨v, hv⟩ := h2
 have e1 : a / gI a b = u := Int.ediv_eq_of_eq_mul_right (by omega) hu
 have e2 : b / gI a b = v := Int.ediv_eq_of_eq_mul_right (by omega) hv
 refine ⟨u, v, hu, hv, ?_, ?_, ?_, e2⟩
 ·rw [← e1, ← e2]
  unfold gI at hg ⊢
  have := Int.gcd_ediv_gcd_ediv_gcd (i := a) (j := b) (by omega)
  omega
 ·rcases Int.lt_or_le v 1 with h | h
  ·have : gI a b * v ≤ 0 := Int.mul_nonpos_of_nonneg_of_nonpos (by omega) (by omega)
   omega
  ·exact h
 ·rw [Int.tdiv_eq_ediv_of_dvd ⟨u, hu⟩, e1]
theorem gI_mul (a b c : Int) (h1 : gI a c = 1) (h2 : gI b c = 1) : gI (a * b) c = 1 := by
 unfold gI Int.gcd at *
 have h1' : Nat.Coprime a.natAbs c.natAbs := by unfold Nat.Coprime; omega
 have h2' : Nat.Coprime b.natAbs c.natAbs := by unfold Nat.Coprime; omega
 have := Nat.Coprime.mul_left h1' h2'
 rw [Int.natAbs_mul]
 unfold Nat.Coprime at this; omega
theorem gI_comm (a b : Int) : gI a b = gI b a := by unfold gI; rw [Int.gcd_comm]
theorem gI_of_mul (k a b l : Int) (h : gI (k * a) (l * b) = 1) : gI a b = 1 := by
 unfold gI Int.gcd at *
 rw [Int.natAbs_mul, Int.natAbs_mul] at h
 have h' : Nat.Coprime (k.natAbs * a.natAbs) (l.natAbs * b.natAbs) := by unfold Nat.Coprime; omega
 have := (h'.coprime_mul_left).coprime_mul_left_right
 unfold Nat.Coprime at this; omega
theorem lt_div_iff (a b M : Int) (hb : 1 ≤ b) : (M / b < a) ↔ (M < a * b) := by
 exact Int.ediv_lt_iff_lt_mul (by omega)
theorem aI_mul (a b : Int) : aI (a * b) = aI a * aI b := by unfold aI; rw [Int.natAbs_mul]; simp

/-- times. -/
def timesF (n d m e : Int) : Int × Int × Int :=
 if n = 0 ∨ m = 0 then (0, 1, 0)
 else if aI (n.tdiv (gI n e)) > 1099511627776 / aI (m.tdiv (gI m d)) ∨ d / gI m d > 1048576 / (e / gI n e) then (0, 0, 5)
 else (n.tdiv (gI n e) * m.tdiv (gI m d), d / gI m d * (e / gI n e), 0)
theorem timesF_rat (n d m e : Int) (hd : 1 ≤ d) (he : 1 ≤ e) (h1 : gI n d = 1) (h2 : gI m e = 1) : timesF n d m e = toF (Rat.divInt n d * Rat.divInt m e) := by
 unfold timesF
 by_cases h0 : n = 0 ∨ m = 0
 ·rw [if_pos h0]
  rcases h0 with h0 | h0
  ·subst h0; simp; decide
  ·subst h0; simp; decide
 rw [if_neg h0]
 obtain ⟨u, v, hn, hev, c1, hv, t1, t2⟩ := gcd_parts n e he
 obtain ⟨s, t, hm, hdt, c2, ht, t3, t4⟩ := gcd_parts m d hd
 rw [t1, t2, t3, t4]
 have hs : s ≠ 0 := by intro h; rw [h] at hm; simp at hm; omega
 have has : 1 ≤ aI s := by unfold aI; omega
 have c3 : gI u t = 1 := by rw [hn, hdt] at h1; exact gI_of_mul _ _ _ _ h1
 have c4 : gI s v = 1 := by rw [hm, hev] at h2; exact gI_of_mul _ _ _ _ h2
 have c5 : gI (u * s) (t * v) = 1 := by
  rw [gI_comm]
  refine gI_mul _ _ _ ?_ ?_
  ·rw [gI_comm]; exact gI_mul _ _ _ c3 c2
  ·rw [gI_comm]; exact gI_mul _ _ _ c1 c4
 have htv : 1 * 1 ≤ t * v := Int.mul_le_mul ht hv (by omega) (by omega)
 have hr : Rat.divInt n d * Rat.divInt m e = Rat.divInt (u * s) (t * v) := by
  rw [Rat.divInt_mul_divInt, Rat.divInt_eq_divInt_iff (by have : 1 * 1 ≤ d * e := Int.mul_le_mul hd he (by omega) (by omega); omega) (by omega)]
  generalize gI n e = g at *
  generalize gI m d = h at *
  subst hn hev hm hdt
  grind
 rw [hr, toF_red (by omega) c5, aI_mul]
 have k1 := lt_div_iff (aI u) (aI s) 1099511627776 has
 have k2 := lt_div_iff t v 1048576 hv
 by_cases g1 : 1099511627776 / aI s < aI u ∨ 1048576 / v < t
 ·rw [if_pos g1, if_pos (by omega)]
 ·rw [if_neg g1, if_neg (by omega)]
/-- The reference's product: sign, numerator, denominator. -/
theorem rmul_rat (n d m e : Int) (hd : 1 ≤ d) (he : 1 ≤ e) :
  Rat.divInt n d * Rat.divInt m e = Rat.divInt (if decide (n < 0) != decide (m < 0) then -(aI n / gI (aI n) e * (aI m / gI (aI m) d)) else aI n / gI (aI n) e * (aI m / gI (aI m) d)) (d / gI (aI m) d * (e / gI (aI n) e)) := by
 obtain ⟨u, v, hn, hev, c1, hv, t1, t2⟩ := gcd_parts (aI n) e he
 obtain ⟨s, t, hm, hdt, c2, ht, t3, t4⟩ := gcd_parts (aI m) d hd
 have a1 : 0 ≤ aI n := by unfold aI; omega
 have a2 : 0 ≤ aI m := by unfold aI; omega
 rw [Int.tdiv_eq_ediv_of_nonneg a1] at t1
 rw [Int.tdiv_eq_ediv_of_nonneg a2] at t3
 rw [t1, t2, t3, t4]
 have htv : 1 * 1 ≤ t * v := Int.mul_le_mul ht hv (by omega) (by omega)
 rw [Rat.divInt_mul_divInt, Rat.divInt_eq_divInt_iff (by have : 1 * 1 ≤ d * e := Int.mul_le_mul hd he (by omega) (by omega); omega) (by omega)]
 have sn : n = if n < 0 then -aI n else aI n := by unfold aI; split <;> omega
 have sm : m = if m < 0 then -aI m else aI m := by unfold aI; split <;> omega
 generalize aI n = n' at *
 generalize aI m = m' at *
 generalize gI n' e = g at *
 generalize gI m' d = h at *
 by_cases p1 : n < 0 <;> by_cases p2 : m < 0 <;> simp only [p1, p2, if_true, if_false, decide_true, decide_false] at sn sm ⊢ <;> simp <;> grind
/-- The reference's quotient. -/
theorem rdiv_rat (n d m e : Int) (hd : 1 ≤ d) (he : 1 ≤ e) (hm0 : m ≠ 0) :
  Rat.divInt n d * Rat.divInt e m = Rat.divInt (if decide (n < 0) != decide (m < 0) then -(aI n / gI (aI n) (aI m) * (e / gI e d)) else aI n / gI (aI n) (aI m) * (e / gI e d)) (d / gI e d * (aI m / gI (aI n) (aI m))) := by
 have am : 1 ≤ aI m := by unfold aI; omega
 obtain ⟨u, v, hn, hev, c1, hv, t1, t2⟩ := gcd_parts (aI n) (aI m) am
 obtain ⟨s, t, hm, hdt, c2, ht, t3, t4⟩ := gcd_parts e d hd
 have a1 : 0 ≤ aI n := by unfold aI; omega
 rw [Int.tdiv_eq_ediv_of_nonneg a1] at t1
 rw [Int.tdiv_eq_ediv_of_nonneg (by omega)] at t3
 rw [t1, t2, t3, t4]
 have htv : 1 * 1 ≤ t * v := Int.mul_le_mul ht hv (by omega) (by omega)
 rw [Rat.divInt_mul_divInt, Rat.divInt_eq_divInt_iff (by intro h; rcases Int.mul_eq_zero.1 h with h | h <;> omega) (by omega)]
 have sn : n = if n < 0 then -aI n else aI n := by unfold aI; split <;> omega
 have sm : m = if m < 0 then -aI m else aI m := by unfold aI; split <;> omega
 generalize aI n = n' at *
 generalize aI m = m' at *
 generalize gI n' m' = g at *
 generalize gI e d = h at *
 by_cases p1 : n < 0 <;> by_cases p2 : m < 0 <;> simp only [p1, p2, if_true, if_false, decide_true, decide_false] at sn sm ⊢ <;> simp <;> grind

def mulF (n d m e : Int) : Int × Int × Int := if prB n d && prB m e then toF (Rat.divInt n d * Rat.divInt m e) else (0, 0, 2)
def divF (n d m e : Int) : Int × Int × Int := if prB n d && prB m e then (if m = 0 then (0, 0, 22) else toF (Rat.divInt n d * Rat.divInt e m)) else (0, 0, 2)
theorem times_mul {n d m e : Int} (h1 : prB n d = true) (h2 : prB m e = true) : timesF n d m e = mulF n d m e := by
 obtain ⟨a1, a2, a3, a4, a5⟩ := prB_bounds h1
 obtain ⟨b1, b2, b3, b4, b5⟩ := prB_bounds h2
 unfold mulF; rw [h1, h2, timesF_rat n d m e a1 b1 a5 b5]; rfl
theorem times_div_neg {n d m e : Int} (h1 : prB n d = true) (h2 : prB m e = true) (hm : m < 0) : timesF (-n) d e (-m) = divF n d m e := by
 obtain ⟨a1, a2, a3, a4, a5⟩ := prB_bounds h1
 obtain ⟨b1, b2, b3, b4, b5⟩ := prB_bounds h2
 have g1 : gI (-n) d = 1 := by unfold gI at *; simp; omega
 have g2 : gI e (-m) = 1 := by rw [gI_comm]; unfold gI at *; simp; omega
 have e1 : Rat.divInt e (-m) = Rat.divInt (-e) m := by rw [← Rat.neg_divInt_neg, Int.neg_neg]
 unfold divF; rw [h1, h2, timesF_rat (-n) d e (-m) a1 (by omega) g1 g2, e1, Rat.divInt_mul_divInt, Rat.divInt_mul_divInt, Int.neg_mul_neg]; simp [show m ≠ 0 by omega]
theorem times_div_pos {n d m e : Int} (h1 : prB n d = true) (h2 : prB m e = true) (hm : 0 < m) : timesF n d e m = divF n d m e := by
 obtain ⟨a1, a2, a3, a4, a5⟩ := prB_bounds h1
 obtain ⟨b1, b2, b3, b4, b5⟩ := prB_bounds h2
 unfold divF; rw [h1, h2, timesF_rat n d e m a1 (by omega) a5 (by rw [gI_comm]; exact b5)]; simp [show m ≠ 0 by omega]
end

section
open Go.Shelf Go.RowKit Go.Lib
def lays264_ren : Go.Shelf.Ren := ⟨fun | 264 => 122 | n => n, fun | 53 => 146 | 46 => 188 | n => n, fun | n => n⟩
theorem lays264 : Go.Proofs.Lays.n264 Tryz.prog lays264_ren := {
 mixed := by kernel_rfl
 f264 := Tryz.func122.trans (congrArg some (by kernel_rfl))
 t46 := Tryz.underlying188
 a46 := Tryz.isAgg188
 z46 := Tryz.sizeOf188
 v46 := Tryz.zeroValue188
 t53 := Tryz.underlying146
 a53 := Tryz.isAgg146
 z53 := Tryz.sizeOf146
 v53 := Tryz.zeroValue146 }
/-- The product of two numbers below 2^41, as the walk has it. -/
theorem mul64_any (x y : Int) (hx : 0 ≤ x) (hy : 0 ≤ y) (hx1 : x ≤ 18446744073709551615) (hy1 : y ≤ 18446744073709551615) (w : World) :
  Calls Tryz.prog 122 #[.int .u64 x, .int .u64 y] w fun e w' => e = .returned (.tuple #[.int .u64 (x * y / 18446744073709551616), .int .u64 (x * y % 18446744073709551616)]) ∧ w = w' := by
 obtain ⟨x, rfl⟩ := Int.eq_ofNat_of_zero_le hx
 obtain ⟨y, rfl⟩ := Int.eq_ofNat_of_zero_le hy
 refine (Any.bits_Mul64 lays264 x y (by omega) (by omega) w).mono fun e w' ⟨he, hw⟩ => ⟨?_, hw.symm⟩
 rw [he]; simp
def mulHi (x y : Int) : Int := x * y / 18446744073709551616
def mulLo (x y : Int) : Int := x * y % 18446744073709551616
theorem mul64_def (x y : Int) (hx : 0 ≤ x) (hy : 0 ≤ y) (hx1 : x ≤ 18446744073709551615) (hy1 : y ≤ 18446744073709551615) (w : World) :
  Calls Tryz.prog 122 #[.int .u64 x, .int .u64 y] w fun e w' => e = .returned (.tuple #[.int .u64 (mulHi x y), .int .u64 (mulLo x y)]) ∧ w = w' := mul64_any x y hx hy hx1 hy1 w
theorem mul_small (x y : Int) (h0 : 0 ≤ x * y) (h : x * y ≤ 18446744073709551615) : mulHi x y = 0 ∧ mulLo x y = x * y := by
 unfold mulHi mulLo; omega
theorem mul_large (x y : Int) (h : 18446744073709551615 < x * y) : 0 < mulHi x y := by
 unfold mulHi; omega
end

section
open Go.RowKit
set_option linter.unusedVariables false

/-- value: 0/1 for a fraction that is not proper. -/
def valN (n d : Int) : Int := if prB n d then n else 0
def valD (n d : Int) : Int := if prB n d then d else 1
theorem valP (n d : Int) : prB (valN n d) (valD n d) = true := by
 unfold valN valD; split
 ·assumption
 ·decide +kernel

set_option maxHeartbeats 1000000 in
theorem value_any (n d : Int) (w : World) :
  Calls Tryz.prog 58 #[.agg #[.int .i64 n, .int .i64 d]] w fun e w' => e = .returned (.agg #[.int .i64 (valN n d), .int .i64 (valD n d)]) ∧ Below w.heap.size w w' := by
 by_cases p : prB n d = true
 ·have e1 : valN n d = n := by unfold valN; rw [if_pos p]
  have e2 : valD n d = d := by unfold valD; rw [if_pos p]
  rw [e1, e2]
  clear e1 e2
  go_enter Tryz.func58, Tryz.ntmps58
  go_wp2_with fail; refine (proper_any _ _ _).mono ?_; rintro e w1 ⟨rfl, hb1⟩; obtain ⟨hc1, hf1, hz1, hlt1, hle1⟩ := cellsIf hb1 (by (try simp); exact rfl); (try have := s00 w w1); (try have := s01 w w1); (try have := s02 w w1); (try have := s10 w w1); (try have := s11 w w1); (try have := s12 w w1); (try have := s20 w w1); (try have := s21 w w1); (try have := s22 w w1)
  go_wp2
  refine bodyPost_ret (v := .agg #[.int .i64 n, .int .i64 d]) (by simp [results, Tryz.results58, go_sem, ↓IntWalk.iteOmega, *]) rfl ⟨rfl, ?_⟩
  exact bel
 ·have pf : prB n d = false := by simpa using p
  have e1 : valN n d = 0 := by unfold valN; rw [if_neg p]
  have e2 : valD n d = 1 := by unfold valD; rw [if_neg p]
  rw [e1, e2]
  clear e1 e2 p
  go_enter Tryz.func58, Tryz.ntmps58
  go_wp2_with fail; refine (proper_any _ _ _).mono ?_; rintro e w1 ⟨rfl, hb1⟩; obtain ⟨hc1, hf1, hz1, hlt1, hle1⟩ := cellsIf hb1 (by (try simp); exact rfl); (try have := s00 w w1); (try have := s01 w w1); (try have := s02 w w1); (try have := s10 w w1); (try have := s11 w w1); (try have := s12 w w1); (try have := s20 w w1); (try have := s21 w w1); (try have := s22 w w1)
  go_wp2
  refine bodyPost_ret (v := .agg #[.int .i64 0, .int .i64 1]) (by simp [results, Tryz.results58, go_sem, ↓IntWalk.iteOmega, *]) rfl ⟨rfl, ?_⟩
  exact bel

/-- The order of the values. -/
def cmpF (n d m e : Int) : Int := if valN n d * valD m e < valN m e * valD n d then -1 else if valN n d * valD m e > valN m e * valD n d then 1 else 0

set_option maxHeartbeats 1000000 in
theorem cmp_any (n d m e : Int) (w : World) :
  Calls Tryz.prog 27 #[.agg #[.int .i64 n, .int .i64 d], .agg #[.int .i64 m, .int .i64 e]] w fun e' w' => e' = .returned (.int .i64 (cmpF n d m e)) ∧ Below w.heap.size w w' := by
 have h1 := valP n d
 have h2 := valP m e
 obtain ⟨k1, k2, k3, k4, k5, k6⟩ := sum_bounds h1 h2
 have v1 := fun W => value_any n d W
 have v2 := fun W => value_any m e W
 have hc : cmpF n d m e = if valN n d * valD m e < valN m e * valD n d then -1 else if valN n d * valD m e > valN m e * valD n d then 1 else 0 := rfl
 generalize valN n d = n' at *
 generalize valD n d = d' at *
 generalize valN m e = m' at *
 generalize valD m e = e' at *
 have V1 := Lib.hid v1
 have V2 := Lib.hid v2
 have Hc := Lib.hid hc
 clear v1 v2 hc h1 h2
 go_enter Tryz.func27, Tryz.ntmps27
 go_wp2
 refine wp_region_aft_tail 4 (by kernel_rfl) (by kernel_rfl) (by (try simp); exact rfl) ?_; intro haft; simp only [List.take_succ_cons, List.take_zero, List.drop_succ_cons, List.drop_zero]; (repeat (go_big_quiet_step ((go_at_call 58; first | (with_reducible exact aft_of (V1.out _)) | (with_reducible exact aft_of (V2.out _)))))); refine wpQuiet_nil ?_; intro w1 hwx; have hb1 := aft_below hwx; clear hwx; obtain ⟨hc1, hf1, hz1, hlt1, hle1⟩ := cellsIf hb1 (by (try simp); exact rfl); (try have := s00 w w1); (try have := s01 w w1); (try have := s02 w w1); (try have := s10 w w1); (try have := s11 w w1); (try have := s12 w w1); (try have := s20 w w1); (try have := s21 w w1); (try have := s22 w w1); clear haft
 go_wp2
 go_quiet (fail)
 by_cases q1 : n' * e' < m' * d'
 ·have b1 : decide (n' * e' < m' * d') = true := by simpa using q1
  go_wp2
  go_ret
  refine ⟨ret_int (by rw [Hc.out, if_pos q1]), ?_⟩
  exact bel
 ·have b1 : decide (n' * e' < m' * d') = false := by simpa using q1
  by_cases q2 : m' * d' < n' * e'
  ·have b2 : decide (m' * d' < n' * e') = true := by simpa using q2
   go_wp2
   go_ret
   refine ⟨ret_int (by rw [Hc.out, if_neg (by omega), if_pos q2]), ?_⟩
   exact bel
  ·have b2 : decide (m' * d' < n' * e') = false := by simpa using q2
   go_wp2
   go_ret
   refine ⟨ret_int (by rw [Hc.out, if_neg (by omega), if_neg (by omega)]), ?_⟩
   exact bel

/-- The integers next to a fraction. -/
def floorF (n d : Int) : Int := valN n d / valD n d
def ceilF (n d : Int) : Int := -(-valN n d / valD n d)
theorem tdiv_facts (N D : Int) (hD : 1 ≤ D) (h1 : -1099511627776 ≤ N) (h2 : N ≤ 1099511627776) :
  -1099511627776 ≤ N.tdiv D ∧ N.tdiv D ≤ 1099511627776 ∧ -1099511627776 ≤ N.tdiv D * D ∧ N.tdiv D * D ≤ 1099511627776 ∧
  N / D = (if N < N.tdiv D * D then N.tdiv D - 1 else N.tdiv D) ∧ -(-N / D) = (if N.tdiv D * D < N then N.tdiv D + 1 else N.tdiv D) := by
 obtain ⟨a1, a2⟩ := tdiv_bound N D 1099511627776 hD h1 h2
 have e := Int.tmod_add_tdiv_mul N D
 have m1 := Int.tmod_lt_of_pos N (by omega : 0 < D)
 rcases Int.lt_or_le N 0 with hN | hN
 ·have e1 := tdiv_neg_case N D hN
  have f1 : 0 ≤ (-N) / D := Int.ediv_nonneg (by omega) (by omega)
  have f2 := Int.emod_add_mul_ediv (-N) D
  have f3 := Int.emod_nonneg (-N) (by omega : D ≠ 0)
  have f4 := Int.emod_lt_of_pos (-N) (by omega : 0 < D)
  have e2 : N.tdiv D * D = -(D * ((-N) / D)) := by rw [e1]; grind
  have g2 := Int.emod_add_mul_ediv N D
  have g3 := Int.emod_nonneg N (by omega : D ≠ 0)
  have g4 := Int.emod_lt_of_pos N (by omega : 0 < D)
  have e3 : N / D = if N < N.tdiv D * D then N.tdiv D - 1 else N.tdiv D := by
   split
   ·refine (Int.ediv_eq_iff_of_pos (by omega)).2 ?_
    rw [Int.sub_mul, e2]; omega
   ·refine (Int.ediv_eq_iff_of_pos (by omega)).2 ?_
    rw [e2]; omega
  have k0 : 0 ≤ D * ((-N) / D) := Int.mul_nonneg (by omega) f1
  refine ⟨a1, a2, by omega, by omega, e3, ?_⟩
  rw [if_neg (by omega), e1]
 ·have e1 : N.tdiv D = N / D := Int.tdiv_eq_ediv_of_nonneg hN
  have g2 := Int.emod_add_mul_ediv N D
  have g3 := Int.emod_nonneg N (by omega : D ≠ 0)
  have g4 := Int.emod_lt_of_pos N (by omega : 0 < D)
  have e2 : N.tdiv D * D = D * (N / D) := by rw [e1, Int.mul_comm]
  have k0 : 0 ≤ D * (N / D) := Int.mul_nonneg (by omega) (Int.ediv_nonneg hN (by omega))
  refine ⟨a1, a2, by omega, by omega, by rw [if_neg (by omega), e1], ?_⟩
  split
  ·have : (-N) / D = -(N.tdiv D + 1) := by
    refine (Int.ediv_eq_iff_of_pos (by omega)).2 ?_
    rw [Int.neg_mul, Int.add_mul, e2]; omega
   omega
  ·have : (-N) / D = -(N.tdiv D) := by
    refine (Int.ediv_eq_iff_of_pos (by omega)).2 ?_
    rw [Int.neg_mul, e2]; omega
   omega

set_option maxHeartbeats 1000000 in
theorem ceil_any (n d : Int) (w : World) :
  Calls Tryz.prog 74 #[.agg #[.int .i64 n, .int .i64 d]] w fun e' w' => e' = .returned (.int .i64 (ceilF n d)) ∧ Below w.heap.size w w' := by
 have h1 := valP n d
 obtain ⟨b1, b2, b3, b4, _⟩ := prB_bounds h1
 have v1 := fun W => value_any n d W
 obtain ⟨t1, t2, t3, t4, t5, t6⟩ := tdiv_facts _ _ b1 b3 b4
 have hc : ceilF n d = -(-valN n d / valD n d) := rfl
 rw [t6] at hc
 generalize valN n d = N at *
 generalize valD n d = D at *
 have V1 := Lib.hid v1
 have Hc := Lib.hid hc
 clear v1 hc h1 t5 t6
 by_cases q1 : N.tdiv D * D < N
 ·have q2 : decide (N.tdiv D * D < N) = true := by simpa using q1
  have Q := Lib.hid q1
  go_enter Tryz.func74, Tryz.ntmps74
  go_wp2_with fail; refine (V1.out _).mono ?_; rintro e w1 ⟨rfl, hb1⟩; obtain ⟨hc1, hf1, hz1, hlt1, hle1⟩ := cellsIf hb1 (by (try simp); exact rfl); (try have := s00 w w1); (try have := s01 w w1); (try have := s02 w w1); (try have := s10 w w1); (try have := s11 w w1); (try have := s12 w w1); (try have := s20 w w1); (try have := s21 w w1); (try have := s22 w w1)
  go_wp2
  go_ret
  refine ⟨ret_int (by rw [Hc.out, if_pos (by have := Q.out; omega)]), ?_⟩
  exact bel
 ·have q2 : decide (N.tdiv D * D < N) = false := by simpa using q1
  have Q := Lib.hid q1
  go_enter Tryz.func74, Tryz.ntmps74
  go_wp2_with fail; refine (V1.out _).mono ?_; rintro e w1 ⟨rfl, hb1⟩; obtain ⟨hc1, hf1, hz1, hlt1, hle1⟩ := cellsIf hb1 (by (try simp); exact rfl); (try have := s00 w w1); (try have := s01 w w1); (try have := s02 w w1); (try have := s10 w w1); (try have := s11 w w1); (try have := s12 w w1); (try have := s20 w w1); (try have := s21 w w1); (try have := s22 w w1)
  go_wp2
  go_ret
  refine ⟨ret_int (by rw [Hc.out, if_neg (by have := Q.out; omega)]), ?_⟩
  exact bel
end

section
open Go.RowKit
set_option linter.unusedVariables false

/-- Two proper fractions with one value are one. -/
theorem proper_eq {n d m e : Int} (h1 : prB n d = true) (h2 : prB m e = true) (h : n * e = m * d) : n = m ∧ d = e := by
 obtain ⟨a1, a2⟩ := prB_rat h1
 obtain ⟨b1, b2⟩ := prB_rat h2
 have := (Rat.divInt_eq_divInt_iff (by have := prB_bounds h1; omega) (by have := prB_bounds h2; omega)).2 h
 rw [this] at a1 a2
 exact ⟨a1.symm.trans b1, a2.symm.trans b2⟩
theorem valNP {n d : Int} (h : prB n d = true) : valN n d = n ∧ valD n d = d := by unfold valN valD; rw [if_pos h, if_pos h]; exact ⟨rfl, rfl⟩
theorem cmpF_lt {n d m e : Int} (h1 : prB n d = true) (h2 : prB m e = true) : cmpF n d m e < 0 ↔ n * e < m * d := by
 unfold cmpF
 rw [(valNP h1).1, (valNP h1).2, (valNP h2).1, (valNP h2).2]
 split
 ·simp_all
 ·split <;> simp_all
theorem cmpF_gt {n d m e : Int} (h1 : prB n d = true) (h2 : prB m e = true) : 0 < cmpF n d m e ↔ m * d < n * e := by
 unfold cmpF
 rw [(valNP h1).1, (valNP h1).2, (valNP h2).1, (valNP h2).2]
 split
 ·simp_all; omega
 ·split <;> simp_all
end

section
open Go.RowKit
set_option linter.unusedVariables false

theorem tdiv_pos_ne (n g : Int) (hg : g ∣ n) (h0 : n ≠ 0) : n.tdiv g ≠ 0 := by
 obtain ⟨k, rfl⟩ := hg
 intro h
 rw [Int.tdiv_eq_ediv_of_dvd ⟨k, rfl⟩] at h
 by_cases g0 : g = 0
 ·subst g0; simp at h0
 ·rw [Int.mul_ediv_cancel_left _ g0] at h
  subst h; simp at h0
theorem quot_pos (a b : Int) (hb : 1 ≤ b) : 1 ≤ b / gI a b := by
 obtain ⟨_, _, _, _, _, q1, _, q2⟩ := gcd_parts a b hb
 rw [q2]; exact q1

set_option maxHeartbeats 1000000 in
theorem times_any (n d m e : Int) (w : World) (hn1 : -1099511627776 ≤ n) (hn2 : n ≤ 1099511627776) (hm1 : -1099511627776 ≤ m) (hm2 : m ≤ 1099511627776) (hd1 : 1 ≤ d) (hd2 : d ≤ 1099511627776) (he1 : 1 ≤ e) (he2 : e ≤ 1099511627776) :
  Calls Tryz.prog 120 #[.int .i64 n, .int .i64 d, .int .i64 m, .int .i64 e] w (RetFE (timesF n d m e) w) := by
 by_cases h0 : n = 0
 ·have H := Lib.hid (show timesF n d m e = (0, 1, 0) by unfold timesF; rw [if_pos (Or.inl h0)])
  have b1 : (n == 0) = true := by simp [h0]
  clear h0 hn1 hn2
  go_enter Tryz.func120, Tryz.ntmps120
  go_wp2
  refine bodyPost_ret (v := .tuple #[.agg #[.int .i64 0, .int .i64 1], .nilIface]) (by simp [results, Tryz.results120, go_sem]) rfl (RetFE.mk (by rw [H.out]; rfl) ?_)
  exact bel
 by_cases h00 : m = 0
 ·have H := Lib.hid (show timesF n d m e = (0, 1, 0) by unfold timesF; rw [if_pos (Or.inr h00)])
  have b1 : (n == 0) = false := by simp [h0]
  have b2 : (m == 0) = true := by simp [h00]
  clear h0 h00 hm1 hm2
  go_enter Tryz.func120, Tryz.ntmps120
  go_wp2
  refine bodyPost_ret (v := .tuple #[.agg #[.int .i64 0, .int .i64 1], .nilIface]) (by simp [results, Tryz.results120, go_sem]) rfl (RetFE.mk (by rw [H.out]; rfl) ?_)
  exact bel
 have b1 : (n == 0) = false := by simp; omega
 have b2 : (m == 0) = false := by simp; omega
 have a1 := aI_nonneg n
 have a2 := aI_le n 1099511627776 hn1 hn2
 have a3 := aI_nonneg m
 have a4 := aI_le m 1099511627776 hm1 hm2
 have g1 := gI_pos n e he1
 have g2 := gI_le n e he1
 have h1 := gI_pos m d hd1
 have h2 := gI_le m d hd1
 have hgn := gI_aI n e
 have hgm := gI_aI m d
 have dn : n.tdiv (gI n e) ≠ 0 := tdiv_pos_ne _ _ (by unfold gI; exact Int.gcd_dvd_left n e) h0
 have dm : m.tdiv (gI m d) ≠ 0 := tdiv_pos_ne _ _ (by unfold gI; exact Int.gcd_dvd_left m d) h00
 obtain ⟨t1, t2⟩ := tdiv_bound n (gI n e) 1099511627776 g1 hn1 hn2
 obtain ⟨t3, t4⟩ := tdiv_bound m (gI m d) 1099511627776 h1 hm1 hm2
 have q1 := quot_pos n e he1
 have q3 := quot_pos m d hd1
 obtain ⟨_, e2⟩ := ediv_bound e (gI n e) g1 (by omega)
 obtain ⟨_, e4⟩ := ediv_bound d (gI m d) h1 (by omega)
 have an : 1 ≤ aI (n.tdiv (gI n e)) := by unfold aI; omega
 have am : 1 ≤ aI (m.tdiv (gI m d)) := by unfold aI; omega
 have an2 := aI_le (n.tdiv (gI n e)) 1099511627776 t1 t2
 have am2 := aI_le (m.tdiv (gI m d)) 1099511627776 t3 t4
 obtain ⟨u1, u2⟩ := ediv_bound 1099511627776 (aI (m.tdiv (gI m d))) am (by omega)
 obtain ⟨u3, u4⟩ := ediv_bound 1048576 (e / gI n e) q1 (by omega)
 have k1 := lt_div_iff (aI (n.tdiv (gI n e))) (aI (m.tdiv (gI m d))) 1099511627776 am
 have k2 := lt_div_iff (d / gI m d) (e / gI n e) 1048576 q1
 rw [← aI_mul] at k1
 have hT : timesF n d m e = if aI (n.tdiv (gI n e)) > 1099511627776 / aI (m.tdiv (gI m d)) ∨ d / gI m d > 1048576 / (e / gI n e) then (0, 0, 5) else (n.tdiv (gI n e) * m.tdiv (gI m d), d / gI m d * (e / gI n e), 0) := by unfold timesF; rw [if_neg (by omega)]
 clear h0 h00
 by_cases l1 : 1099511627776 / aI (m.tdiv (gI m d)) < aI (n.tdiv (gI n e))
 ·have H := Lib.hid (show timesF n d m e = (0, 0, 5) by rw [hT, if_pos (Or.inl l1)])
  have c1 : decide (1099511627776 / aI (m.tdiv (gI m d)) < aI (n.tdiv (gI n e))) = true := by simpa using l1
  clear hT k1 k2
  go_enter Tryz.func120, Tryz.ntmps120
  go_wp2_with (first | (go_at_call 57; refine (abs_any _ _ (by omega) (by omega)).mono ?_; rintro e' w' ⟨rfl, rfl⟩) | (go_at_call 56; refine (gcd_any _ _ _ (by omega) (by omega) (by omega) (by omega)).mono ?_; rintro e' w' ⟨rfl, nq1, rfl⟩))
  go_quiet (fail)
  go_wp2_with (first | (go_at_call 57; refine (abs_any _ _ (by omega) (by omega)).mono ?_; rintro e' w' ⟨rfl, rfl⟩) | (go_at_call 56; refine (gcd_any _ _ _ (by omega) (by omega) (by omega) (by omega)).mono ?_; rintro e' w' ⟨rfl, nq1, rfl⟩))
  refine bodyPost_ret (v := .tuple #[.agg #[.int .i64 0, .int .i64 0], .iface 49 (.int .i64 5)]) (by simp [results, Tryz.results120, go_sem, ↓IntWalk.iteOmega, *]) rfl (RetFE.mk (by rw [H.out]; rfl) ?_)
  exact bel
 ·by_cases l2 : 1048576 / (e / gI n e) < d / gI m d
  ·have H := Lib.hid (show timesF n d m e = (0, 0, 5) by rw [hT, if_pos (Or.inr l2)])
   have c1 : decide (1099511627776 / aI (m.tdiv (gI m d)) < aI (n.tdiv (gI n e))) = false := by simpa using l1
   have c2 : decide (1048576 / (e / gI n e) < d / gI m d) = true := by simpa using l2
   clear hT k1 k2
   go_enter Tryz.func120, Tryz.ntmps120
   go_wp2_with (first | (go_at_call 57; refine (abs_any _ _ (by omega) (by omega)).mono ?_; rintro e' w' ⟨rfl, rfl⟩) | (go_at_call 56; refine (gcd_any _ _ _ (by omega) (by omega) (by omega) (by omega)).mono ?_; rintro e' w' ⟨rfl, nq1, rfl⟩))
   go_quiet (fail)
   go_wp2_with (first | (go_at_call 57; refine (abs_any _ _ (by omega) (by omega)).mono ?_; rintro e' w' ⟨rfl, rfl⟩) | (go_at_call 56; refine (gcd_any _ _ _ (by omega) (by omega) (by omega) (by omega)).mono ?_; rintro e' w' ⟨rfl, nq1, rfl⟩))
   refine bodyPost_ret (v := .tuple #[.agg #[.int .i64 0, .int .i64 0], .iface 49 (.int .i64 5)]) (by simp [results, Tryz.results120, go_sem, ↓IntWalk.iteOmega, *]) rfl (RetFE.mk (by rw [H.out]; rfl) ?_)
   exact bel
  ·have H := Lib.hid (show timesF n d m e = (n.tdiv (gI n e) * m.tdiv (gI m d), d / gI m d * (e / gI n e), 0) by rw [hT, if_neg (by omega)])
   have c1 : decide (1099511627776 / aI (m.tdiv (gI m d)) < aI (n.tdiv (gI n e))) = false := by simpa using l1
   have c2 : decide (1048576 / (e / gI n e) < d / gI m d) = false := by simpa using l2
   have f1 : aI (n.tdiv (gI n e) * m.tdiv (gI m d)) ≤ 1099511627776 := by omega
   have f2 : d / gI m d * (e / gI n e) ≤ 1048576 := by omega
   have f3 : -1099511627776 ≤ n.tdiv (gI n e) * m.tdiv (gI m d) ∧ n.tdiv (gI n e) * m.tdiv (gI m d) ≤ 1099511627776 := by unfold aI at f1; omega
   have f4 : 1 * 1 ≤ d / gI m d * (e / gI n e) := Int.mul_le_mul q3 q1 (by omega) (by omega)
   obtain ⟨f5, f6⟩ := f3
   clear hT k1 k2 f1
   go_enter Tryz.func120, Tryz.ntmps120
   go_wp2_with (first | (go_at_call 57; refine (abs_any _ _ (by omega) (by omega)).mono ?_; rintro e' w' ⟨rfl, rfl⟩) | (go_at_call 56; refine (gcd_any _ _ _ (by omega) (by omega) (by omega) (by omega)).mono ?_; rintro e' w' ⟨rfl, nq1, rfl⟩))
   go_quiet (fail)
   go_wp2_with (first | (go_at_call 57; refine (abs_any _ _ (by omega) (by omega)).mono ?_; rintro e' w' ⟨rfl, rfl⟩) | (go_at_call 56; refine (gcd_any _ _ _ (by omega) (by omega) (by omega) (by omega)).mono ?_; rintro e' w' ⟨rfl, nq1, rfl⟩))
   refine bodyPost_ret (v := .tuple #[.agg #[.int .i64 (n.tdiv (gI n e) * m.tdiv (gI m d)), .int .i64 (d / gI m d * (e / gI n e))], .nilIface]) (by simp [results, Tryz.results120, go_sem, ↓IntWalk.iteOmega, *]) rfl (RetFE.mk (by rw [H.out]; rfl) ?_)
   exact bel
end

section
open Go.RowKit
set_option linter.unusedVariables false

set_option maxHeartbeats 1000000 in
theorem mul_any (n d m e : Int) (w : World) :
  Calls Tryz.prog 117 #[.agg #[.int .i64 n, .int .i64 d], .agg #[.int .i64 m, .int .i64 e]] w (RetFE (mulF n d m e) w) := by
 by_cases p1 : prB n d = true
 ·by_cases p2 : prB m e = true
  ·obtain ⟨a1, a2, a3, a4, _⟩ := prB_bounds p1
   obtain ⟨b1, b2, b3, b4, _⟩ := prB_bounds p2
   have hn := fun W => times_any n d m e W a3 a4 b3 b4 a1 (by omega) b1 (by omega)
   rw [times_mul p1 p2] at hn
   obtain ⟨r, hr⟩ : ∃ r, mulF n d m e = r := ⟨_, rfl⟩
   rw [hr] at hn ⊢
   have Hn := Lib.hid hn
   clear hn hr
   go_enter Tryz.func117, Tryz.ntmps117
   go_wp2_with (first | (go_at_call 89; refine (proper_any _ _ _).mono ?_; rintro e' w' ⟨rfl, hb⟩; obtain ⟨hc, hf, hz, hlt, hle⟩ := cellsIf hb (by (try simp); exact rfl)) | (go_at_call 120; refine (Hn.out _).mono ?_; rintro e' w' ⟨rfl, hb⟩; obtain ⟨hc, hf, hz, hlt, hle⟩ := cellsIf hb (by (try simp); exact rfl)))
   refine bodyPost_ret (v := .tuple #[.agg #[.int .i64 r.1, .int .i64 r.2.1], errV r.2.2]) (by simp [results, Tryz.results117, go_sem, ↓IntWalk.iteOmega, *]) rfl (RetFE.mk rfl ?_)
   exact bel
  ·have p3 : prB m e = false := by simpa using p2
   have H := Lib.hid (show mulF n d m e = (0, 0, 2) by unfold mulF; rw [p1, p3]; rfl)
   go_enter Tryz.func117, Tryz.ntmps117
   go_wp2_with (go_at_call 89; refine (proper_any _ _ _).mono ?_; rintro e' w' ⟨rfl, hb⟩; obtain ⟨hc, hf, hz, hlt, hle⟩ := cellsIf hb (by (try simp); exact rfl))
   refine bodyPost_ret (v := .tuple #[.agg #[.int .i64 0, .int .i64 0], .iface 49 (.int .i64 2)]) (by simp [results, Tryz.results117, go_sem, ↓IntWalk.iteOmega, *]) rfl (RetFE.mk (by rw [H.out]; rfl) ?_)
   exact bel
 ·have p3 : prB n d = false := by simpa using p1
  have H := Lib.hid (show mulF n d m e = (0, 0, 2) by unfold mulF; rw [p3]; rfl)
  go_enter Tryz.func117, Tryz.ntmps117
  go_wp2_with (go_at_call 89; refine (proper_any _ _ _).mono ?_; rintro e' w' ⟨rfl, hb⟩; obtain ⟨hc, hf, hz, hlt, hle⟩ := cellsIf hb (by (try simp); exact rfl))
  refine bodyPost_ret (v := .tuple #[.agg #[.int .i64 0, .int .i64 0], .iface 49 (.int .i64 2)]) (by simp [results, Tryz.results117, go_sem, ↓IntWalk.iteOmega, *]) rfl (RetFE.mk (by rw [H.out]; rfl) ?_)
  exact bel

set_option maxHeartbeats 1000000 in
theorem div_any (n d m e : Int) (w : World) :
  Calls Tryz.prog 114 #[.agg #[.int .i64 n, .int .i64 d], .agg #[.int .i64 m, .int .i64 e]] w (RetFE (divF n d m e) w) := by
 by_cases p1 : prB n d = true
 ·by_cases p2 : prB m e = true
  ·obtain ⟨a1, a2, a3, a4, _⟩ := prB_bounds p1
   obtain ⟨b1, b2, b3, b4, _⟩ := prB_bounds p2
   by_cases m0 : m = 0
   ·have H := Lib.hid (show divF n d m e = (0, 0, 22) by unfold divF; rw [p1, p2, if_pos m0]; rfl)
    have c1 : (m == 0) = true := by simp [m0]
    clear m0
    go_enter Tryz.func114, Tryz.ntmps114
    go_wp2_with (go_at_call 89; refine (proper_any _ _ _).mono ?_; rintro e' w' ⟨rfl, hb⟩; obtain ⟨hc, hf, hz, hlt, hle⟩ := cellsIf hb (by (try simp); exact rfl))
    refine bodyPost_ret (v := .tuple #[.agg #[.int .i64 0, .int .i64 0], .iface 49 (.int .i64 22)]) (by simp [results, Tryz.results114, go_sem, ↓IntWalk.iteOmega, *]) rfl (RetFE.mk (by rw [H.out]; rfl) ?_)
    exact bel
   have c1 : (m == 0) = false := by simp [m0]
   by_cases m1 : m < 0
   ·have c2 : decide (m < 0) = true := by simpa using m1
    have hn := fun W => times_any (-n) d e (-m) W (by omega) (by omega) (by omega) (by omega) a1 (by omega) (by omega) (by omega)
    rw [times_div_neg p1 p2 m1] at hn
    obtain ⟨r, hr⟩ : ∃ r, divF n d m e = r := ⟨_, rfl⟩
    rw [hr] at hn ⊢
    have Hn := Lib.hid hn
    clear hn hr m0
    go_enter Tryz.func114, Tryz.ntmps114
    go_wp2_with (first | (go_at_call 89; refine (proper_any _ _ _).mono ?_; rintro e' w' ⟨rfl, hb⟩; obtain ⟨hc, hf, hz, hlt, hle⟩ := cellsIf hb (by (try simp); exact rfl)) | (go_at_call 120; refine (Hn.out _).mono ?_; rintro e' w' ⟨rfl, hb⟩; obtain ⟨hc, hf, hz, hlt, hle⟩ := cellsIf hb (by (try simp); exact rfl)))
    refine bodyPost_ret (v := .tuple #[.agg #[.int .i64 r.1, .int .i64 r.2.1], errV r.2.2]) (by simp [results, Tryz.results114, go_sem, ↓IntWalk.iteOmega, *]) rfl (RetFE.mk rfl ?_)
    exact bel
   ·have c2 : decide (m < 0) = false := by simpa using m1
    have hn := fun W => times_any n d e m W (by omega) (by omega) (by omega) (by omega) a1 (by omega) (by omega) (by omega)
    rw [times_div_pos p1 p2 (by omega)] at hn
    obtain ⟨r, hr⟩ : ∃ r, divF n d m e = r := ⟨_, rfl⟩
    rw [hr] at hn ⊢
    have Hn := Lib.hid hn
    clear hn hr m0
    go_enter Tryz.func114, Tryz.ntmps114
    go_wp2_with (first | (go_at_call 89; refine (proper_any _ _ _).mono ?_; rintro e' w' ⟨rfl, hb⟩; obtain ⟨hc, hf, hz, hlt, hle⟩ := cellsIf hb (by (try simp); exact rfl)) | (go_at_call 120; refine (Hn.out _).mono ?_; rintro e' w' ⟨rfl, hb⟩; obtain ⟨hc, hf, hz, hlt, hle⟩ := cellsIf hb (by (try simp); exact rfl)))
    refine bodyPost_ret (v := .tuple #[.agg #[.int .i64 r.1, .int .i64 r.2.1], errV r.2.2]) (by simp [results, Tryz.results114, go_sem, ↓IntWalk.iteOmega, *]) rfl (RetFE.mk rfl ?_)
    exact bel
  ·have p3 : prB m e = false := by simpa using p2
   have H := Lib.hid (show divF n d m e = (0, 0, 2) by unfold divF; rw [p1, p3]; rfl)
   go_enter Tryz.func114, Tryz.ntmps114
   go_wp2_with (go_at_call 89; refine (proper_any _ _ _).mono ?_; rintro e' w' ⟨rfl, hb⟩; obtain ⟨hc, hf, hz, hlt, hle⟩ := cellsIf hb (by (try simp); exact rfl))
   refine bodyPost_ret (v := .tuple #[.agg #[.int .i64 0, .int .i64 0], .iface 49 (.int .i64 2)]) (by simp [results, Tryz.results114, go_sem, ↓IntWalk.iteOmega, *]) rfl (RetFE.mk (by rw [H.out]; rfl) ?_)
   exact bel
 ·have p3 : prB n d = false := by simpa using p1
  have H := Lib.hid (show divF n d m e = (0, 0, 2) by unfold divF; rw [p3]; rfl)
  go_enter Tryz.func114, Tryz.ntmps114
  go_wp2_with (go_at_call 89; refine (proper_any _ _ _).mono ?_; rintro e' w' ⟨rfl, hb⟩; obtain ⟨hc, hf, hz, hlt, hle⟩ := cellsIf hb (by (try simp); exact rfl))
  refine bodyPost_ret (v := .tuple #[.agg #[.int .i64 0, .int .i64 0], .iface 49 (.int .i64 2)]) (by simp [results, Tryz.results114, go_sem, ↓IntWalk.iteOmega, *]) rfl (RetFE.mk (by rw [H.out]; rfl) ?_)
  exact bel
end

section
open Go.RowKit
set_option linter.unusedVariables false

/-- x * y of two quotients. -/
theorem prod_bounds (x y a b : Int) (h1 : 0 ≤ x) (h2 : x ≤ a) (h3 : 0 ≤ y) (h4 : y ≤ b) : 0 ≤ x * y ∧ x * y ≤ a * b :=
 ⟨Int.mul_nonneg h1 h3, Int.mul_le_mul h2 h4 h3 (by omega)⟩
theorem aI_tdiv (n g : Int) (hg : 1 ≤ g) : aI (n.tdiv g) = aI n / g := by
 unfold aI
 rw [Int.natAbs_tdiv]
 show ((n.natAbs / g.natAbs : Nat) : Int) = _
 rw [Int.natCast_ediv, Int.natAbs_of_nonneg (by omega : 0 ≤ g)]

set_option maxHeartbeats 1000000 in
theorem rmul_any (n d m e : Int) (w : World) :
  Calls Tryz.prog 119 #[.agg #[.int .i64 n, .int .i64 d], .agg #[.int .i64 m, .int .i64 e]] w (RetFC (mulF n d m e) w) := by
 by_cases p1 : prB n d = true
 ·by_cases p2 : prB m e = true
  ·obtain ⟨a1, a2, a3, a4, _⟩ := prB_bounds p1
   obtain ⟨b1, b2, b3, b4, _⟩ := prB_bounds p2
   have n1 := aI_nonneg n
   have n2 := aI_le n 1099511627776 a3 a4
   have m1 := aI_nonneg m
   have m2 := aI_le m 1099511627776 b3 b4
   have g1 := gI_pos (aI n) e b1
   have g2 := gI_le (aI n) e b1
   have h1 := gI_pos (aI m) d a1
   have h2 := gI_le (aI m) d a1
   obtain ⟨x1, x2⟩ := ediv_bound (aI n) (gI (aI n) e) g1 n1
   obtain ⟨y1, y2⟩ := ediv_bound (aI m) (gI (aI m) d) h1 m1
   obtain ⟨_, u2⟩ := ediv_bound e (gI (aI n) e) g1 (by omega)
   obtain ⟨_, v2⟩ := ediv_bound d (gI (aI m) d) h1 (by omega)
   have u1 := quot_pos (aI n) e b1
   have v1 := quot_pos (aI m) d a1
   obtain ⟨xy1, xy2⟩ := prod_bounds _ _ 1099511627776 1099511627776 x1 (by omega) y1 (by omega)
   obtain ⟨_, uv2⟩ := prod_bounds _ _ 1048576 1048576 (show 0 ≤ d / gI (aI m) d by omega) (by omega) (show 0 ≤ e / gI (aI n) e by omega) (by omega)
   have uv1 : 1 * 1 ≤ d / gI (aI m) d * (e / gI (aI n) e) := Int.mul_le_mul v1 u1 (by omega) (by omega)
   have hT : mulF n d m e = madeF (decide (n < 0) != decide (m < 0)) (aI n / gI (aI n) e * (aI m / gI (aI m) d)) (d / gI (aI m) d * (e / gI (aI n) e)) := by
    unfold mulF; rw [p1, p2, rmul_rat n d m e a1 b1, madeF_rat _ _ _ xy1 (by omega)]; rfl
   by_cases l : aI n / gI (aI n) e * (aI m / gI (aI m) d) ≤ 18446744073709551615
   ·obtain ⟨s1, s2⟩ := mul_small _ _ xy1 l
    have hm := fun W => made_any (decide (n < 0) != decide (m < 0)) _ _ W xy1 l (by omega : 1 ≤ d / gI (aI m) d * (e / gI (aI n) e)) (by omega)
    rw [← hT] at hm
    obtain ⟨r, hr⟩ : ∃ r, mulF n d m e = r := ⟨_, rfl⟩
    rw [hr] at hm ⊢
    have Hm := Lib.hid hm
    clear hm hr hT
    go_enter Tryz.func119, Tryz.ntmps119
    go_wp2_with fail; refine (rproper_any _ _ _).mono ?_; rintro e w1 ⟨rfl, hb1⟩; obtain ⟨hc1, hf1, hz1, hlt1, hle1⟩ := cellsIf hb1 (by (try simp); exact rfl); (try have := s00 w w1); (try have := s01 w w1); (try have := s02 w w1); (try have := s10 w w1); (try have := s11 w w1); (try have := s12 w w1); (try have := s20 w w1); (try have := s21 w w1); (try have := s22 w w1)
    go_wp2_with fail; refine (rproper_any _ _ _).mono ?_; rintro e w2 ⟨rfl, hb2⟩; obtain ⟨hc2, hf2, hz2, hlt2, hle2⟩ := cellsIf hb2 (by (try simp); exact rfl); (try have := s00 w w2); (try have := s01 w w2); (try have := s02 w w2); (try have := s10 w w2); (try have := s11 w w2); (try have := s12 w w2); (try have := s20 w w2); (try have := s21 w w2); (try have := s22 w w2); (try have := s00 w1 w2); (try have := s01 w1 w2); (try have := s02 w1 w2); (try have := s10 w1 w2); (try have := s11 w1 w2); (try have := s12 w1 w2); (try have := s20 w1 w2); (try have := s21 w1 w2); (try have := s22 w1 w2)
    go_wp2
    refine wp_region_aft (by kernel_rfl) (by kernel_rfl) (by (try simp); exact rfl) ?_; intro haft; (repeat (go_big_quiet_step ((first | (go_at_call 79; exact aft_same (size_any _ _ (by omega) (by omega))) | (go_at_call 103; exact aft_drew (rgcd_any _ _ _ (by omega) (by omega) (by omega) (by omega))) | (go_at_call 122; exact aft_same (mul64_def _ _ (by omega) (by omega) (by omega) (by omega) _)))))); refine wpQuiet_nil ?_; intro w3 hwx; have hb3 := aft_below hwx; clear hwx; obtain ⟨hc3, hf3, hz3, hlt3, hle3⟩ := cellsIf hb3 (by (try simp); exact rfl); (try have := s00 w w3); (try have := s01 w w3); (try have := s02 w w3); (try have := s10 w w3); (try have := s11 w w3); (try have := s12 w w3); (try have := s20 w w3); (try have := s21 w w3); (try have := s22 w w3); (try have := s00 w1 w3); (try have := s01 w1 w3); (try have := s02 w1 w3); (try have := s10 w1 w3); (try have := s11 w1 w3); (try have := s12 w1 w3); (try have := s20 w1 w3); (try have := s21 w1 w3); (try have := s22 w1 w3); (try have := s00 w2 w3); (try have := s01 w2 w3); (try have := s02 w2 w3); (try have := s10 w2 w3); (try have := s11 w2 w3); (try have := s12 w2 w3); (try have := s20 w2 w3); (try have := s21 w2 w3); (try have := s22 w2 w3); clear haft
    go_wp2
    refine wp_region_aft (by kernel_rfl) (by kernel_rfl) (by (try simp); exact rfl) ?_; intro haft; (repeat (go_big_quiet_step ((first | (go_at_call 79; exact aft_same (size_any _ _ (by omega) (by omega))) | (go_at_call 103; exact aft_drew (rgcd_any _ _ _ (by omega) (by omega) (by omega) (by omega))) | (go_at_call 122; exact aft_same (mul64_def _ _ (by omega) (by omega) (by omega) (by omega) _)))))); refine wpQuiet_nil ?_; intro w4 hwx; have hb4 := aft_below hwx; clear hwx; obtain ⟨hc4, hf4, hz4, hlt4, hle4⟩ := cellsIf hb4 (by (try simp); exact rfl); (try have := s00 w w4); (try have := s01 w w4); (try have := s02 w w4); (try have := s10 w w4); (try have := s11 w w4); (try have := s12 w w4); (try have := s20 w w4); (try have := s21 w w4); (try have := s22 w w4); (try have := s00 w1 w4); (try have := s01 w1 w4); (try have := s02 w1 w4); (try have := s10 w1 w4); (try have := s11 w1 w4); (try have := s12 w1 w4); (try have := s20 w1 w4); (try have := s21 w1 w4); (try have := s22 w1 w4); (try have := s00 w2 w4); (try have := s01 w2 w4); (try have := s02 w2 w4); (try have := s10 w2 w4); (try have := s11 w2 w4); (try have := s12 w2 w4); (try have := s20 w2 w4); (try have := s21 w2 w4); (try have := s22 w2 w4); (try have := s00 w3 w4); (try have := s01 w3 w4); (try have := s02 w3 w4); (try have := s10 w3 w4); (try have := s11 w3 w4); (try have := s12 w3 w4); (try have := s20 w3 w4); (try have := s21 w3 w4); (try have := s22 w3 w4); clear haft
    go_wp2
    have ca : w4.cell? ⟨w.heap.size, 0, none⟩ = some (.int .i64 n) := by simp [go_sem, ↓IntWalk.iteOmega, *]
    have cb : w4.cell? ⟨w.heap.size, 1, none⟩ = some (.int .i64 d) := by simp [go_sem, ↓IntWalk.iteOmega, *]
    have cc : w4.cell? ⟨w.heap.size + 1, 0, none⟩ = some (.int .i64 m) := by simp [go_sem, ↓IntWalk.iteOmega, *]
    have cd : w4.cell? ⟨w.heap.size + 1, 1, none⟩ = some (.int .i64 e) := by simp [go_sem, ↓IntWalk.iteOmega, *]
    have z1 : gI (aI n) e ≠ 0 := by omega
    have z2 : gI (aI m) d ≠ 0 := by omega
    have z3 : IntKind.u64.wrap (Int.tdiv d (gI (aI m) d)) = d / gI (aI m) d := IntWalk.u64_quo _ _ ⟨by omega, by omega, by omega⟩
    have z4 : IntKind.u64.wrap (Int.tdiv e (gI (aI n) e)) = e / gI (aI n) e := IntWalk.u64_quo _ _ ⟨by omega, by omega, by omega⟩
    have z5 : IntKind.u64.wrap (d / gI (aI m) d * (e / gI (aI n) e)) = d / gI (aI m) d * (e / gI (aI n) e) := IntWalk.u64_in _ ⟨by omega, by omega⟩
    have z6 : IntKind.u64.wrap d = d := IntWalk.u64_in _ ⟨by omega, by omega⟩
    have z7 : IntKind.u64.wrap e = e := IntWalk.u64_in _ ⟨by omega, by omega⟩
    go_region_held3 (fun w' => w'.cell? ⟨w.heap.size, 0, none⟩ = some (.int .i64 n) ∧ w'.cell? ⟨w.heap.size, 1, none⟩ = some (.int .i64 d) ∧ w'.cell? ⟨w.heap.size + 1, 0, none⟩ = some (.int .i64 m) ∧ w'.cell? ⟨w.heap.size + 1, 1, none⟩ = some (.int .i64 e)) (((try dsimp only); (repeat' apply And.intro) <;> (first | (simp [go_sem, ↓IntWalk.iteOmega, *]; done) | assumption)))
     (first | (go_at_call 78; refine (Hm.out _).mono ?_; rintro e' w5 ⟨rfl, hb⟩; obtain ⟨hc, hf, hz, hlt, hle⟩ := cellsIf hb (by (try simp); exact rfl)))
    clear z3 z4 z5 z6 z7
    go_wp2
    refine bodyPost_ret (v := .tuple #[.agg #[.int .i64 r.1, .int .i64 r.2.1], .int .i64 r.2.2]) (by simp [results, Tryz.results119, go_sem, ↓IntWalk.iteOmega, *]) rfl (RetFC.mk rfl ?_)
    exact bel
   ·have s1 := mul_large _ _ (by omega : 18446744073709551615 < aI n / gI (aI n) e * (aI m / gI (aI m) d))
    have H := Lib.hid (show mulF n d m e = (0, 0, 5) by
     have hT2 : mulF n d m e = toF (Rat.divInt n d * Rat.divInt m e) := by unfold mulF; rw [p1, p2]; rfl
     have hl := l
     rw [hT2, ← timesF_rat n d m e a1 b1 (prB_bounds p1).2.2.2.2 (prB_bounds p2).2.2.2.2]
     have z1 : n ≠ 0 := by intro h; subst h; simp [aI] at l
     have z2 : m ≠ 0 := by intro h; subst h; simp [aI] at l
     unfold timesF
     rw [if_neg (by omega), if_pos (Or.inl ?_)]
     have e1 := aI_tdiv n (gI n e) (gI_pos n e b1)
     have e2 := aI_tdiv m (gI m d) (gI_pos m d a1)
     rw [← gI_aI n e] at e1
     rw [← gI_aI m d] at e2
     rw [← gI_aI n e, ← gI_aI m d, e1, e2]
     have y0 : aI m / gI (aI m) d ≠ 0 := by intro h; rw [h] at l; simp at l
     exact (lt_div_iff _ _ _ (by omega)).2 (by omega))
    have s2 : decide (0 < mulHi (aI n / gI (aI n) e) (aI m / gI (aI m) d)) = true := by simpa using s1
    clear hT l
    go_enter Tryz.func119, Tryz.ntmps119
    go_wp2_with fail; refine (rproper_any _ _ _).mono ?_; rintro e w1 ⟨rfl, hb1⟩; obtain ⟨hc1, hf1, hz1, hlt1, hle1⟩ := cellsIf hb1 (by (try simp); exact rfl); (try have := s00 w w1); (try have := s01 w w1); (try have := s02 w w1); (try have := s10 w w1); (try have := s11 w w1); (try have := s12 w w1); (try have := s20 w w1); (try have := s21 w w1); (try have := s22 w w1)
    go_wp2_with fail; refine (rproper_any _ _ _).mono ?_; rintro e w2 ⟨rfl, hb2⟩; obtain ⟨hc2, hf2, hz2, hlt2, hle2⟩ := cellsIf hb2 (by (try simp); exact rfl); (try have := s00 w w2); (try have := s01 w w2); (try have := s02 w w2); (try have := s10 w w2); (try have := s11 w w2); (try have := s12 w w2); (try have := s20 w w2); (try have := s21 w w2); (try have := s22 w w2); (try have := s00 w1 w2); (try have := s01 w1 w2); (try have := s02 w1 w2); (try have := s10 w1 w2); (try have := s11 w1 w2); (try have := s12 w1 w2); (try have := s20 w1 w2); (try have := s21 w1 w2); (try have := s22 w1 w2)
    go_wp2
    refine wp_region_aft (by kernel_rfl) (by kernel_rfl) (by (try simp); exact rfl) ?_; intro haft; (repeat (go_big_quiet_step ((first | (go_at_call 79; exact aft_same (size_any _ _ (by omega) (by omega))) | (go_at_call 103; exact aft_drew (rgcd_any _ _ _ (by omega) (by omega) (by omega) (by omega))) | (go_at_call 122; exact aft_same (mul64_def _ _ (by omega) (by omega) (by omega) (by omega) _)))))); refine wpQuiet_nil ?_; intro w3 hwx; have hb3 := aft_below hwx; clear hwx; obtain ⟨hc3, hf3, hz3, hlt3, hle3⟩ := cellsIf hb3 (by (try simp); exact rfl); (try have := s00 w w3); (try have := s01 w w3); (try have := s02 w w3); (try have := s10 w w3); (try have := s11 w w3); (try have := s12 w w3); (try have := s20 w w3); (try have := s21 w w3); (try have := s22 w w3); (try have := s00 w1 w3); (try have := s01 w1 w3); (try have := s02 w1 w3); (try have := s10 w1 w3); (try have := s11 w1 w3); (try have := s12 w1 w3); (try have := s20 w1 w3); (try have := s21 w1 w3); (try have := s22 w1 w3); (try have := s00 w2 w3); (try have := s01 w2 w3); (try have := s02 w2 w3); (try have := s10 w2 w3); (try have := s11 w2 w3); (try have := s12 w2 w3); (try have := s20 w2 w3); (try have := s21 w2 w3); (try have := s22 w2 w3); clear haft
    go_wp2
    refine wp_region_aft (by kernel_rfl) (by kernel_rfl) (by (try simp); exact rfl) ?_; intro haft; (repeat (go_big_quiet_step ((first | (go_at_call 79; exact aft_same (size_any _ _ (by omega) (by omega))) | (go_at_call 103; exact aft_drew (rgcd_any _ _ _ (by omega) (by omega) (by omega) (by omega))) | (go_at_call 122; exact aft_same (mul64_def _ _ (by omega) (by omega) (by omega) (by omega) _)))))); refine wpQuiet_nil ?_; intro w4 hwx; have hb4 := aft_below hwx; clear hwx; obtain ⟨hc4, hf4, hz4, hlt4, hle4⟩ := cellsIf hb4 (by (try simp); exact rfl); (try have := s00 w w4); (try have := s01 w w4); (try have := s02 w w4); (try have := s10 w w4); (try have := s11 w w4); (try have := s12 w w4); (try have := s20 w w4); (try have := s21 w w4); (try have := s22 w w4); (try have := s00 w1 w4); (try have := s01 w1 w4); (try have := s02 w1 w4); (try have := s10 w1 w4); (try have := s11 w1 w4); (try have := s12 w1 w4); (try have := s20 w1 w4); (try have := s21 w1 w4); (try have := s22 w1 w4); (try have := s00 w2 w4); (try have := s01 w2 w4); (try have := s02 w2 w4); (try have := s10 w2 w4); (try have := s11 w2 w4); (try have := s12 w2 w4); (try have := s20 w2 w4); (try have := s21 w2 w4); (try have := s22 w2 w4); (try have := s00 w3 w4); (try have := s01 w3 w4); (try have := s02 w3 w4); (try have := s10 w3 w4); (try have := s11 w3 w4); (try have := s12 w3 w4); (try have := s20 w3 w4); (try have := s21 w3 w4); (try have := s22 w3 w4); clear haft
    go_wp2
    refine bodyPost_ret (v := .tuple #[.agg #[.int .i64 0, .int .i64 0], .int .i64 5]) (by simp [results, Tryz.results119, go_sem, ↓IntWalk.iteOmega, *]) rfl (RetFC.mk (by rw [H.out]) ?_)
    exact bel
  ·have p3 : prB m e = false := by simpa using p2
   have H := Lib.hid (show mulF n d m e = (0, 0, 2) by unfold mulF; rw [p1, p3]; rfl)
   go_enter Tryz.func119, Tryz.ntmps119
   go_wp2_with (go_at_call 104; refine (rproper_any _ _ _).mono ?_; rintro e' w' ⟨rfl, hb⟩; obtain ⟨hc, hf, hz, hlt, hle⟩ := cellsIf hb (by (try simp); exact rfl))
   refine bodyPost_ret (v := .tuple #[.agg #[.int .i64 0, .int .i64 0], .int .i64 2]) (by simp [results, Tryz.results119, go_sem, ↓IntWalk.iteOmega, *]) rfl (RetFC.mk (by rw [H.out]) ?_)
   exact bel
 ·have p3 : prB n d = false := by simpa using p1
  have H := Lib.hid (show mulF n d m e = (0, 0, 2) by unfold mulF; rw [p3]; rfl)
  go_enter Tryz.func119, Tryz.ntmps119
  go_wp2_with (go_at_call 104; refine (rproper_any _ _ _).mono ?_; rintro e' w' ⟨rfl, hb⟩; obtain ⟨hc, hf, hz, hlt, hle⟩ := cellsIf hb (by (try simp); exact rfl))
  refine bodyPost_ret (v := .tuple #[.agg #[.int .i64 0, .int .i64 0], .int .i64 2]) (by simp [results, Tryz.results119, go_sem, ↓IntWalk.iteOmega, *]) rfl (RetFC.mk (by rw [H.out]) ?_)
  exact bel

set_option maxHeartbeats 1000000 in
theorem rdiv_any (n d m e : Int) (w : World) :
  Calls Tryz.prog 118 #[.agg #[.int .i64 n, .int .i64 d], .agg #[.int .i64 m, .int .i64 e]] w (RetFC (divF n d m e) w) := by
 by_cases p1 : prB n d = true
 ·by_cases p2 : prB m e = true
  ·by_cases m0 : m = 0
   ·have H := Lib.hid (show divF n d m e = (0, 0, 22) by unfold divF; rw [p1, p2, if_pos m0]; rfl)
    have c1 : (m == 0) = true := by simp [m0]
    clear m0
    go_enter Tryz.func118, Tryz.ntmps118
    go_wp2_with (go_at_call 104; refine (rproper_any _ _ _).mono ?_; rintro e' w' ⟨rfl, hb⟩; obtain ⟨hc, hf, hz, hlt, hle⟩ := cellsIf hb (by (try simp); exact rfl))
    refine bodyPost_ret (v := .tuple #[.agg #[.int .i64 0, .int .i64 0], .int .i64 22]) (by simp [results, Tryz.results118, go_sem, ↓IntWalk.iteOmega, *]) rfl (RetFC.mk (by rw [H.out]) ?_)
    exact bel
   have c1 : (m == 0) = false := by simp [m0]
   obtain ⟨a1, a2, a3, a4, _⟩ := prB_bounds p1
   obtain ⟨b1, b2, b3, b4, _⟩ := prB_bounds p2
   have n1 := aI_nonneg n
   have n2 := aI_le n 1099511627776 a3 a4
   have m1 : 1 ≤ aI m := by unfold aI; omega
   have m2 := aI_le m 1099511627776 b3 b4
   have g1 := gI_pos (aI n) (aI m) m1
   have g2 := gI_le (aI n) (aI m) m1
   have h1 := gI_pos e d a1
   have h2 := gI_le e d a1
   obtain ⟨x1, x2⟩ := ediv_bound (aI n) (gI (aI n) (aI m)) g1 n1
   obtain ⟨y1, y2⟩ := ediv_bound e (gI e d) h1 (by omega)
   obtain ⟨_, u2⟩ := ediv_bound (aI m) (gI (aI n) (aI m)) g1 (by omega)
   obtain ⟨_, v2⟩ := ediv_bound d (gI e d) h1 (by omega)
   have u1 := quot_pos (aI n) (aI m) m1
   have v1 := quot_pos e d a1
   obtain ⟨xy1, xy2⟩ := prod_bounds _ _ 1099511627776 1048576 x1 (by omega) y1 (by omega)
   obtain ⟨_, uv2⟩ := prod_bounds _ _ 1048576 1099511627776 (show 0 ≤ d / gI e d by omega) (by omega) (show 0 ≤ aI m / gI (aI n) (aI m) by omega) (by omega)
   have uv1 : 1 * 1 ≤ d / gI e d * (aI m / gI (aI n) (aI m)) := Int.mul_le_mul v1 u1 (by omega) (by omega)
   have hT : divF n d m e = madeF (decide (n < 0) != decide (m < 0)) (aI n / gI (aI n) (aI m) * (e / gI e d)) (d / gI e d * (aI m / gI (aI n) (aI m))) := by
    unfold divF; rw [p1, p2, if_neg m0, rdiv_rat n d m e a1 b1 m0, madeF_rat _ _ _ xy1 (by omega)]; rfl
   have hm := fun W => made_any (decide (n < 0) != decide (m < 0)) _ _ W xy1 (by omega) (by omega : 1 ≤ d / gI e d * (aI m / gI (aI n) (aI m))) (by omega)
   rw [← hT] at hm
   obtain ⟨r, hr⟩ : ∃ r, divF n d m e = r := ⟨_, rfl⟩
   rw [hr] at hm ⊢
   have Hm := Lib.hid hm
   clear hm hr hT m0
   go_enter Tryz.func118, Tryz.ntmps118
   go_wp2_with fail; refine (rproper_any _ _ _).mono ?_; rintro e w1 ⟨rfl, hb1⟩; obtain ⟨hc1, hf1, hz1, hlt1, hle1⟩ := cellsIf hb1 (by (try simp); exact rfl); (try have := s00 w w1); (try have := s01 w w1); (try have := s02 w w1); (try have := s10 w w1); (try have := s11 w w1); (try have := s12 w w1); (try have := s20 w w1); (try have := s21 w w1); (try have := s22 w w1)
   go_wp2_with fail; refine (rproper_any _ _ _).mono ?_; rintro e w2 ⟨rfl, hb2⟩; obtain ⟨hc2, hf2, hz2, hlt2, hle2⟩ := cellsIf hb2 (by (try simp); exact rfl); (try have := s00 w w2); (try have := s01 w w2); (try have := s02 w w2); (try have := s10 w w2); (try have := s11 w w2); (try have := s12 w w2); (try have := s20 w w2); (try have := s21 w w2); (try have := s22 w w2); (try have := s00 w1 w2); (try have := s01 w1 w2); (try have := s02 w1 w2); (try have := s10 w1 w2); (try have := s11 w1 w2); (try have := s12 w1 w2); (try have := s20 w1 w2); (try have := s21 w1 w2); (try have := s22 w1 w2)
   go_wp2
   refine wp_region_aft (by kernel_rfl) (by kernel_rfl) (by (try simp); exact rfl) ?_; intro haft; (repeat (go_big_quiet_step ((first | (go_at_call 79; exact aft_same (size_any _ _ (by omega) (by omega))) | (go_at_call 103; exact aft_drew (rgcd_any _ _ _ (by omega) (by omega) (by omega) (by omega))))))); refine wpQuiet_nil ?_; intro w3 hwx; have hb3 := aft_below hwx; clear hwx; obtain ⟨hc3, hf3, hz3, hlt3, hle3⟩ := cellsIf hb3 (by (try simp); exact rfl); (try have := s00 w w3); (try have := s01 w w3); (try have := s02 w w3); (try have := s10 w w3); (try have := s11 w w3); (try have := s12 w w3); (try have := s20 w w3); (try have := s21 w w3); (try have := s22 w w3); (try have := s00 w1 w3); (try have := s01 w1 w3); (try have := s02 w1 w3); (try have := s10 w1 w3); (try have := s11 w1 w3); (try have := s12 w1 w3); (try have := s20 w1 w3); (try have := s21 w1 w3); (try have := s22 w1 w3); (try have := s00 w2 w3); (try have := s01 w2 w3); (try have := s02 w2 w3); (try have := s10 w2 w3); (try have := s11 w2 w3); (try have := s12 w2 w3); (try have := s20 w2 w3); (try have := s21 w2 w3); (try have := s22 w2 w3); clear haft
   go_wp2
   refine wp_region_aft (by kernel_rfl) (by kernel_rfl) (by (try simp); exact rfl) ?_; intro haft; (repeat (go_big_quiet_step ((first | (go_at_call 79; exact aft_same (size_any _ _ (by omega) (by omega))) | (go_at_call 103; exact aft_drew (rgcd_any _ _ _ (by omega) (by omega) (by omega) (by omega))))))); refine wpQuiet_nil ?_; intro w4 hwx; have hb4 := aft_below hwx; clear hwx; obtain ⟨hc4, hf4, hz4, hlt4, hle4⟩ := cellsIf hb4 (by (try simp); exact rfl); (try have := s00 w w4); (try have := s01 w w4); (try have := s02 w w4); (try have := s10 w w4); (try have := s11 w w4); (try have := s12 w w4); (try have := s20 w w4); (try have := s21 w w4); (try have := s22 w w4); (try have := s00 w1 w4); (try have := s01 w1 w4); (try have := s02 w1 w4); (try have := s10 w1 w4); (try have := s11 w1 w4); (try have := s12 w1 w4); (try have := s20 w1 w4); (try have := s21 w1 w4); (try have := s22 w1 w4); (try have := s00 w2 w4); (try have := s01 w2 w4); (try have := s02 w2 w4); (try have := s10 w2 w4); (try have := s11 w2 w4); (try have := s12 w2 w4); (try have := s20 w2 w4); (try have := s21 w2 w4); (try have := s22 w2 w4); (try have := s00 w3 w4); (try have := s01 w3 w4); (try have := s02 w3 w4); (try have := s10 w3 w4); (try have := s11 w3 w4); (try have := s12 w3 w4); (try have := s20 w3 w4); (try have := s21 w3 w4); (try have := s22 w3 w4); clear haft
   go_wp2_with (go_at_call 78; refine (Hm.out _).mono ?_; rintro e' w5 ⟨rfl, hb⟩; obtain ⟨hc, hf, hz, hlt, hle⟩ := cellsIf hb (by (try simp); exact rfl))
   refine bodyPost_ret (v := .tuple #[.agg #[.int .i64 r.1, .int .i64 r.2.1], .int .i64 r.2.2]) (by simp [results, Tryz.results118, go_sem, ↓IntWalk.iteOmega, *]) rfl (RetFC.mk rfl ?_)
   exact bel
  ·have p3 : prB m e = false := by simpa using p2
   have H := Lib.hid (show divF n d m e = (0, 0, 2) by unfold divF; rw [p1, p3]; rfl)
   go_enter Tryz.func118, Tryz.ntmps118
   go_wp2_with (go_at_call 104; refine (rproper_any _ _ _).mono ?_; rintro e' w' ⟨rfl, hb⟩; obtain ⟨hc, hf, hz, hlt, hle⟩ := cellsIf hb (by (try simp); exact rfl))
   refine bodyPost_ret (v := .tuple #[.agg #[.int .i64 0, .int .i64 0], .int .i64 2]) (by simp [results, Tryz.results118, go_sem, ↓IntWalk.iteOmega, *]) rfl (RetFC.mk (by rw [H.out]) ?_)
   exact bel
 ·have p3 : prB n d = false := by simpa using p1
  have H := Lib.hid (show divF n d m e = (0, 0, 2) by unfold divF; rw [p3]; rfl)
  go_enter Tryz.func118, Tryz.ntmps118
  go_wp2_with (go_at_call 104; refine (rproper_any _ _ _).mono ?_; rintro e' w' ⟨rfl, hb⟩; obtain ⟨hc, hf, hz, hlt, hle⟩ := cellsIf hb (by (try simp); exact rfl))
  refine bodyPost_ret (v := .tuple #[.agg #[.int .i64 0, .int .i64 0], .int .i64 2]) (by simp [results, Tryz.results118, go_sem, ↓IntWalk.iteOmega, *]) rfl (RetFC.mk (by rw [H.out]) ?_)
  exact bel
end

section
open Go.RowKit
set_option linter.unusedVariables false

set_option maxHeartbeats 1000000 in
theorem rplain_any (n d : Int) (w : World) :
  Calls Tryz.prog 80 #[.agg #[.int .i64 n, .int .i64 d]] w fun e w' => e = .returned (.agg #[.int .i64 (valN n d), .int .i64 (valD n d)]) ∧ Below w.heap.size w w' := by
 by_cases p : prB n d = true
 ·have e1 : valN n d = n := by unfold valN; rw [if_pos p]
  have e2 : valD n d = d := by unfold valD; rw [if_pos p]
  rw [e1, e2]
  clear e1 e2
  go_enter Tryz.func80, Tryz.ntmps80
  go_wp2_with fail; refine (rproper_any _ _ _).mono ?_; rintro e w1 ⟨rfl, hb1⟩; obtain ⟨hc1, hf1, hz1, hlt1, hle1⟩ := cellsIf hb1 (by (try simp); exact rfl); (try have := s00 w w1); (try have := s01 w w1); (try have := s02 w w1); (try have := s10 w w1); (try have := s11 w w1); (try have := s12 w w1); (try have := s20 w w1); (try have := s21 w w1); (try have := s22 w w1)
  go_wp2
  refine bodyPost_ret (v := .agg #[.int .i64 n, .int .i64 d]) (by simp [results, Tryz.results80, go_sem, ↓IntWalk.iteOmega, *]) rfl ⟨rfl, ?_⟩
  exact bel
 ·have pf : prB n d = false := by simpa using p
  have e1 : valN n d = 0 := by unfold valN; rw [if_neg p]
  have e2 : valD n d = 1 := by unfold valD; rw [if_neg p]
  rw [e1, e2]
  clear e1 e2 p
  go_enter Tryz.func80, Tryz.ntmps80
  go_wp2_with fail; refine (rproper_any _ _ _).mono ?_; rintro e w1 ⟨rfl, hb1⟩; obtain ⟨hc1, hf1, hz1, hlt1, hle1⟩ := cellsIf hb1 (by (try simp); exact rfl); (try have := s00 w w1); (try have := s01 w w1); (try have := s02 w w1); (try have := s10 w w1); (try have := s11 w w1); (try have := s12 w w1); (try have := s20 w w1); (try have := s21 w w1); (try have := s22 w w1)
  go_wp2
  refine bodyPost_ret (v := .agg #[.int .i64 0, .int .i64 1]) (by simp [results, Tryz.results80, go_sem, ↓IntWalk.iteOmega, *]) rfl ⟨rfl, ?_⟩
  exact bel

set_option maxHeartbeats 1000000 in
theorem rcmp_any (n d m e : Int) (w : World) :
  Calls Tryz.prog 47 #[.agg #[.int .i64 n, .int .i64 d], .agg #[.int .i64 m, .int .i64 e]] w fun e' w' => e' = .returned (.int .i64 (cmpF n d m e)) ∧ Below w.heap.size w w' := by
 have h1 := valP n d
 have h2 := valP m e
 obtain ⟨k1, k2, k3, k4, k5, k6⟩ := sum_bounds h1 h2
 have v1 := fun W => rplain_any n d W
 have v2 := fun W => rplain_any m e W
 have hc : cmpF n d m e = if valN n d * valD m e < valN m e * valD n d then -1 else if valN n d * valD m e > valN m e * valD n d then 1 else 0 := rfl
 generalize valN n d = n' at *
 generalize valD n d = d' at *
 generalize valN m e = m' at *
 generalize valD m e = e' at *
 have V1 := Lib.hid v1
 have V2 := Lib.hid v2
 have Hc := Lib.hid hc
 clear v1 v2 hc h1 h2
 go_enter Tryz.func47, Tryz.ntmps47
 go_wp2
 refine wp_region_aft_tail 4 (by kernel_rfl) (by kernel_rfl) (by (try simp); exact rfl) ?_; intro haft; simp only [List.take_succ_cons, List.take_zero, List.drop_succ_cons, List.drop_zero]; (repeat (go_big_quiet_step ((go_at_call 80; first | (with_reducible exact aft_of (V1.out _)) | (with_reducible exact aft_of (V2.out _)))))); refine wpQuiet_nil ?_; intro w1 hwx; have hb1 := aft_below hwx; clear hwx; obtain ⟨hc1, hf1, hz1, hlt1, hle1⟩ := cellsIf hb1 (by (try simp); exact rfl); (try have := s00 w w1); (try have := s01 w w1); (try have := s02 w w1); (try have := s10 w w1); (try have := s11 w w1); (try have := s12 w w1); (try have := s20 w w1); (try have := s21 w w1); (try have := s22 w w1); clear haft
 go_wp2
 go_quiet (fail)
 by_cases q1 : n' * e' < m' * d'
 ·have b1 : decide (n' * e' < m' * d') = true := by simpa using q1
  go_wp2
  go_ret
  refine ⟨ret_int (by rw [Hc.out, if_pos q1]), ?_⟩
  exact bel
 ·have b1 : decide (n' * e' < m' * d') = false := by simpa using q1
  by_cases q2 : m' * d' < n' * e'
  ·have b2 : decide (m' * d' < n' * e') = true := by simpa using q2
   go_wp2
   go_ret
   refine ⟨ret_int (by rw [Hc.out, if_neg (by omega), if_pos q2]), ?_⟩
   exact bel
  ·have b2 : decide (m' * d' < n' * e') = false := by simpa using q2
   go_wp2
   go_ret
   refine ⟨ret_int (by rw [Hc.out, if_neg (by omega), if_neg (by omega)]), ?_⟩
   exact bel

set_option maxHeartbeats 1000000 in
theorem rfloor_any (n d : Int) (w : World) :
  Calls Tryz.prog 87 #[.agg #[.int .i64 n, .int .i64 d]] w fun e' w' => e' = .returned (.int .i64 (floorF n d)) ∧ Below w.heap.size w w' := by
 have h1 := valP n d
 obtain ⟨b1, b2, b3, b4, _⟩ := prB_bounds h1
 have v1 := fun W => rplain_any n d W
 obtain ⟨t1, t2, t3, t4, t5, t6⟩ := tdiv_facts _ _ b1 b3 b4
 have hc : floorF n d = valN n d / valD n d := rfl
 rw [t5] at hc
 generalize valN n d = N at *
 generalize valD n d = D at *
 have V1 := Lib.hid v1
 have Hc := Lib.hid hc
 clear v1 hc h1 t5 t6
 by_cases q1 : N < N.tdiv D * D
 ·have q2 : decide (N < N.tdiv D * D) = true := by simpa using q1
  have Q := Lib.hid q1
  go_enter Tryz.func87, Tryz.ntmps87
  go_wp2_with fail; refine (V1.out _).mono ?_; rintro e w1 ⟨rfl, hb1⟩; obtain ⟨hc1, hf1, hz1, hlt1, hle1⟩ := cellsIf hb1 (by (try simp); exact rfl); (try have := s00 w w1); (try have := s01 w w1); (try have := s02 w w1); (try have := s10 w w1); (try have := s11 w w1); (try have := s12 w w1); (try have := s20 w w1); (try have := s21 w w1); (try have := s22 w w1)
  go_wp2
  go_ret
  refine ⟨ret_int (by rw [Hc.out, if_pos (by have := Q.out; omega)]), ?_⟩
  exact bel
 ·have q2 : decide (N < N.tdiv D * D) = false := by simpa using q1
  have Q := Lib.hid q1
  go_enter Tryz.func87, Tryz.ntmps87
  go_wp2_with fail; refine (V1.out _).mono ?_; rintro e w1 ⟨rfl, hb1⟩; obtain ⟨hc1, hf1, hz1, hlt1, hle1⟩ := cellsIf hb1 (by (try simp); exact rfl); (try have := s00 w w1); (try have := s01 w w1); (try have := s02 w w1); (try have := s10 w w1); (try have := s11 w w1); (try have := s12 w w1); (try have := s20 w w1); (try have := s21 w w1); (try have := s22 w w1)
  go_wp2
  go_ret
  refine ⟨ret_int (by rw [Hc.out, if_neg (by have := Q.out; omega)]), ?_⟩
  exact bel


theorem prB_neg {n d : Int} (h : prB n d = true) : prB (-n) d = true := by
 obtain ⟨h1, h2, h3, h4, h5⟩ := prB_bounds h
 unfold prB
 simp only [decide_eq_true_eq]
 refine ⟨h1, h2, by omega, by omega, ?_⟩
 unfold gI at *
 rw [Int.neg_gcd]; exact h5
theorem floor_neg (n d : Int) : floorF (-valN n d) (valD n d) = -ceilF n d := by
 unfold floorF ceilF
 obtain ⟨h1, h2⟩ := valNP (prB_neg (valP n d))
 rw [h1, h2]; omega

set_option maxHeartbeats 1000000 in
theorem rceil_any (n d : Int) (w : World) :
  Calls Tryz.prog 53 #[.agg #[.int .i64 n, .int .i64 d]] w fun e' w' => e' = .returned (.int .i64 (ceilF n d)) ∧ Below w.heap.size w w' := by
 have h1 := valP n d
 obtain ⟨b1, b2, b3, b4, _⟩ := prB_bounds h1
 have hv1 := fun W => rplain_any n d W
 have hv2 := fun W => neg_any (valN n d) (valD n d) W (by omega) (by omega)
 have hv3 := fun W => rfloor_any (-valN n d) (valD n d) W
 have hf := floor_neg n d
 rw [hf] at hv3
 have hc : -1099511627776 ≤ ceilF n d ∧ ceilF n d ≤ 1099511627776 := by
  unfold ceilF
  have u1 : -valN n d / valD n d ≤ 1099511627776 := Int.ediv_le_of_le_mul (by omega) (by omega)
  have u2 : -1099511627776 ≤ -valN n d / valD n d := Int.le_ediv_of_mul_le (by omega) (by omega)
  omega
 obtain ⟨u1, u2⟩ := hc
 generalize ceilF n d = C at *
 generalize valN n d = N at *
 generalize valD n d = D at *
 clear hf h1 b1 b2 b3 b4
 have H1 := Lib.hid hv1
 have H2 := Lib.hid hv2
 have H3 := Lib.hid hv3
 clear hv1 hv2 hv3
 go_enter Tryz.func53, Tryz.ntmps53
 go_wp2_with fail; refine (H1.out _).mono ?_; rintro e w1 ⟨rfl, hb1⟩; obtain ⟨hc1, hf1, hz1, hlt1, hle1⟩ := cellsIf hb1 (by (try simp); exact rfl); (try have := s00 w w1); (try have := s01 w w1); (try have := s02 w w1); (try have := s10 w w1); (try have := s11 w w1); (try have := s12 w w1); (try have := s20 w w1); (try have := s21 w w1); (try have := s22 w w1)
 go_wp2_with fail; refine (H2.out _).mono ?_; rintro e w2 ⟨rfl, hb2⟩; obtain ⟨hc2, hf2, hz2, hlt2, hle2⟩ := cellsIf hb2 (by (try simp); exact rfl); (try have := s00 w w2); (try have := s01 w w2); (try have := s02 w w2); (try have := s10 w w2); (try have := s11 w w2); (try have := s12 w w2); (try have := s20 w w2); (try have := s21 w w2); (try have := s22 w w2); (try have := s00 w1 w2); (try have := s01 w1 w2); (try have := s02 w1 w2); (try have := s10 w1 w2); (try have := s11 w1 w2); (try have := s12 w1 w2); (try have := s20 w1 w2); (try have := s21 w1 w2); (try have := s22 w1 w2)
 go_wp2_with fail; refine (H3.out _).mono ?_; rintro e w3 ⟨rfl, hb3⟩; obtain ⟨hc3, hf3, hz3, hlt3, hle3⟩ := cellsIf hb3 (by (try simp); exact rfl); (try have := s00 w w3); (try have := s01 w w3); (try have := s02 w w3); (try have := s10 w w3); (try have := s11 w w3); (try have := s12 w w3); (try have := s20 w w3); (try have := s21 w w3); (try have := s22 w w3); (try have := s00 w1 w3); (try have := s01 w1 w3); (try have := s02 w1 w3); (try have := s10 w1 w3); (try have := s11 w1 w3); (try have := s12 w1 w3); (try have := s20 w1 w3); (try have := s21 w1 w3); (try have := s22 w1 w3); (try have := s00 w2 w3); (try have := s01 w2 w3); (try have := s02 w2 w3); (try have := s10 w2 w3); (try have := s11 w2 w3); (try have := s12 w2 w3); (try have := s20 w2 w3); (try have := s21 w2 w3); (try have := s22 w2 w3)
 go_wp2
 go_ret
 exact ⟨ret_int (by omega), by exact bel⟩
end

end Go.Proofs.YtaampjhdgeoicaaGreat

/- Sums of fractions with one denominator: plain; rows of fractions of the call's own. -/
import Derived.Test.YtknnmglaaiimiaaFracU
namespace Go.Proofs.Ytknnmglaaiimiaa
set_option linter.unusedSimpArgs false
set_option linter.unusedVariables false
open Go.RowKit
set_option linter.unusedVariables false

/-- The fractions of numbers over one denominator. -/
def ff (D : Int) (x : Int) : Int × Int := ((newF x D).1, (newF x D).2.1)
def sm (l : List Int) : Int := l.foldl (· + ·) 0
theorem sm_snoc (l : List Int) (x : Int) : sm (l ++ [x]) = sm l + x := by unfold sm; rw [List.foldl_append]; rfl
theorem foldl_add (l : List Int) (a : Int) : l.foldl (· + ·) a = a + l.foldl (· + ·) 0 := by
  induction l generalizing a with
  | nil => simp
  | cons x l ih => simp only [List.foldl_cons]; rw [ih, ih (0 + x)]; omega
theorem sm_cons (l : List Int) (x : Int) : sm (x :: l) = x + sm l := by unfold sm; rw [List.foldl_cons, foldl_add]; omega
theorem sm_rev (l : List Int) : sm l.reverse = sm l := by
  induction l with
  | nil => rfl
  | cons x l ih => rw [List.reverse_cons, sm_snoc, ih, sm_cons]; omega
theorem sm_bd {l : List Int} (h : ∀ x ∈ l, -32768 ≤ x ∧ x ≤ 32767) : -(32768 * (l.length : Int)) ≤ sm l ∧ sm l ≤ 32768 * (l.length : Int) := by
  induction l with
  | nil => simp [sm]
  | cons x l ih =>
    have h1 := ih fun y hy => h y (by simp [hy])
    have h2 := h x (by simp)
    rw [sm_cons]
    simp only [List.length_cons]
    omega

theorem tdiv_abs {n g : Int} (hg : 1 ≤ g) : aI (n.tdiv g) ≤ aI n := by
  unfold aI
  rw [Int.natAbs_tdiv]
  exact Int.ofNat_le.2 (Nat.div_le_self n.natAbs g.natAbs)
/-- A small numerator, a small denominator: New makes a proper fraction. -/
theorem newF_small {n d : Int} (h1 : -1099511627776 ≤ n) (h2 : n ≤ 1099511627776) (hd : 1 ≤ d) (h3 : d ≤ 1048576) : ∃ p q, newF n d = (p, q, 0) ∧ prB p q = true ∧ Rat.divInt p q = Rat.divInt n d := by
  have hr := newF_rat n d (by omega) (by omega) (by omega)
  have hg : 1 ≤ gI n d := by have := gI_pos n d (by omega); omega
  have e1 := num_pos n d hd
  have e2 := den_pos n d hd
  have a1 : aI (Rat.divInt n d).num ≤ 1099511627776 := by
    rw [e1]; have := tdiv_abs (n := n) hg; unfold aI at *; omega
  have a2 : ((Rat.divInt n d).den : Int) ≤ 1048576 := by
    rw [e2]
    have := Int.ediv_le_self (gI n d) (show 0 ≤ d by omega)
    omega
  obtain ⟨t1, t2⟩ := toF_ok _ a1 a2
  exact ⟨_, _, hr.trans t1, t2, Rat.num_divInt_den _⟩
theorem divInt_add {a b D : Int} (hD : 1 ≤ D) : Rat.divInt a D + Rat.divInt b D = Rat.divInt (a + b) D := by
  rw [Rat.divInt_add_divInt _ _ (by omega) (by omega), ← Int.add_mul, Rat.divInt_mul_right (by omega)]

/-- Adding up fractions with one denominator. -/
theorem sumS_same {D : Int} (hD : 1 ≤ D) (hD2 : D ≤ 1048576) : ∀ (l : List Int) (s p q : Int), prB p q = true → Rat.divInt p q = Rat.divInt s D → (∀ x ∈ l, -32768 ≤ x ∧ x ≤ 32767) → -(32768 * (100 - (l.length : Int))) ≤ s → s ≤ 32768 * (100 - (l.length : Int)) → l.length ≤ 100 →
    ∃ p' q', sumS (l.map (ff D)) p q = (p', q', 0) ∧ prB p' q' = true ∧ Rat.divInt p' q' = Rat.divInt (s + sm l) D
  | [], s, p, q, hp, he, _, _, _, _ => ⟨p, q, rfl, hp, by rw [he]; unfold sm; simp⟩
  | x :: l, s, p, q, hp, he, hx, h1, h2, hl => by
    have h3 := hx x (by simp)
    simp only [List.length_cons] at h1 h2 hl
    obtain ⟨a, b, e1, e2, e3⟩ := newF_small (n := x) (d := D) (by omega) (by omega) hD hD2
    have e4 : ff D x = (a, b) := by unfold ff; rw [e1]
    have e5 : addF p q a b = toF (Rat.divInt (s + x) D) := by rw [addF_rat hp e2, he, e3, divInt_add hD]
    obtain ⟨c, d, g1, g2, g3⟩ := newF_small (n := s + x) (d := D) (by omega) (by omega) hD hD2
    rw [newF_rat _ _ (by omega) (by omega) (by omega)] at g1
    rw [g1] at e5
    obtain ⟨p', q', r1, r2, r3⟩ := sumS_same hD hD2 l (s + x) c d g2 g3 (fun y hy => hx y (by simp [hy])) (by omega) (by omega) (by omega)
    refine ⟨p', q', ?_, r2, by rw [r3, sm_cons, Int.add_assoc]⟩
    rw [List.map_cons, e4]
    unfold sumS
    dsimp only
    rw [e5]
    exact r1
theorem sumF_same {D : Int} (hD : 1 ≤ D) (hD2 : D ≤ 1048576) (l : List Int) (h : ∀ x ∈ l, -32768 ≤ x ∧ x ≤ 32767) (hl : l.length ≤ 100) : sumF (l.map (ff D)) = newF (sm l) D := by
  have hb := sm_bd h
  obtain ⟨p', q', r1, r2, r3⟩ := sumS_same hD hD2 l 0 0 1 (by decide +kernel) (by rw [Rat.zero_divInt, Rat.zero_divInt]) h (by omega) (by omega) hl
  unfold sumF
  rw [r1, newF_rat _ _ (by omega) (by omega) (by omega)]
  rw [Int.zero_add] at r3
  rw [← r3]
  exact (prB_toF r2).symm

/-- Fractions as cells. -/
def fc (l : List (Int × Int)) : List Value := l.flatMap fun f => [.int .i64 f.1, .int .i64 f.2]
theorem fc_app (a b : List (Int × Int)) : fc (a ++ b) = fc a ++ fc b := by unfold fc; rw [List.flatMap_append]
theorem fc_len (l : List (Int × Int)) : (fc l).length = l.length * 2 := by
  induction l with
  | nil => rfl
  | cons f l ih => show (_ :: _ :: fc l).length = _; simp only [List.length_cons, ih]; omega
theorem fc_get : ∀ (l : List (Int × Int)) (k : Nat), k < l.length → (fc l)[k * 2]? = some (.int .i64 (fv l k)) ∧ (fc l)[k * 2 + 1]? = some (.int .i64 (fx l k))
  | f :: l, 0, _ => ⟨rfl, rfl⟩
  | f :: l, k + 1, h => by
    obtain ⟨h1, h2⟩ := fc_get l k (by simp at h; omega)
    have e : fc (f :: l) = .int .i64 f.1 :: .int .i64 f.2 :: fc l := rfl
    rw [e, show (k + 1) * 2 = k * 2 + 1 + 1 by omega]
    exact ⟨h1, h2⟩
theorem fc_one {l : List (Int × Int)} : ∀ u ∈ fc l, u.oneCell' = true := by
  intro u hu
  unfold fc at hu
  simp at hu
  obtain ⟨a, b, _, rfl | rfl⟩ := hu <;> rfl
theorem infoC : (Try.prog.info? 42).map (fun i => (i.zero, i.size, i.bytes)) = some (some (.agg #[.int .i64 0, .int .i64 0]), 2, 16) := by kernel_rfl
theorem undC : Try.prog.underlying 26 = some (.slice 42) := by kernel_rfl
/-- A row of fractions of the call's own, read. -/
theorem own_fracs {w : World} {B : Nat} {v : Value} {l : List (Int × Int)} (h : w.ownsRow B 42 2 v l.length (fc l)) (hl : l.length ≤ 140737488355328) : ∃ A c, v = .slice A l.length c ∧ (A = none → c = 0) ∧ FactsAt w w.heap.size A l := by
  rcases h.2 with ⟨rfl, h0⟩ | ⟨b, cap, cur, rfl, hb, hg, hh⟩
  · rw [h0]; exact ⟨none, 0, rfl, fun _ => rfl, hl, fun hn => absurd hn (by omega)⟩
  · refine ⟨_, cap, rfl, fun e => (by cases e), hl, fun _ => ⟨b, 0, rfl, (Array.getElem?_eq_some_iff.1 hg).1, fun k hk => ?_⟩⟩
    have h1 := h.cells (g := b) rfl (k * 2) _ (fc_get l k hk).1
    have h2 := h.cells (g := b) rfl (k * 2 + 1) _ (fc_get l k hk).2
    refine ⟨?_, ?_⟩
    · simp [Addr.add] at h1
      split at h1
      · rename_i h0; have h3 : k = 0 := by omega
        subst h3; simpa using h1
      · simpa using h1
    · simpa [Addr.add] using h2

end Go.Proofs.Ytknnmglaaiimiaa

/- simplex, plain: products of rows of rational numbers; what the last tableau gives. -/
import Derived.Test.YtaampjhdgeoicaaSxI
namespace Go.Proofs.Ytaampjhdgeoicaa
set_option linter.unusedSimpArgs false
set_option linter.unusedVariables false
open Go Go.RowKit
set_option linter.unusedVariables false

/-- The products are the rational ones, or an error is told. -/
def DkIs (a b : List (Int × Int)) (k : Nat) (s : Rat) : Prop := (∃ c, dk a b k = (0, 0, c) ∧ c = 5 ∧ True) ∨ (dk a b k = (s.num, (s.den : Int), 0) ∧ Rep s)
theorem dk_rat {a b : List (Int × Int)} {N : Nat} {f g : Nat → Rat} (ha : NumsOf a N f) (hb : NumsOf b N g) (hf : ∀ j, j < N → Rep (f j)) (hg : ∀ j, j < N → Rep (g j)) : ∀ k, k ≤ N → DkIs a b k (sg k fun j => f j * g j)
  | 0, _ => .inr ⟨rfl, rep_zero⟩
  | k + 1, hk => by
    obtain ⟨a1, a2⟩ := ha.2 k hk
    obtain ⟨b1, b2⟩ := hb.2 k hk
    have hm := mulF_rep (hf k hk) (hg k hk)
    rw [a1, a2, b1, b2] at hm
    rcases dk_rat ha hb hf hg k (by omega) with ⟨c, h, hc, _⟩ | ⟨h, hr⟩
    · exact .inl ⟨c, dk_stay h (by omega) 1, hc, trivial⟩
    · by_cases hp : Rep (f k * g k)
      · rw [rep_toF hp] at hm
        have hs := addF_rep hr hp
        by_cases hq : Rep ((sg k fun j => f j * g j) + f k * g k)
        · rw [rep_toF hq] at hs
          exact .inr ⟨dk_ok h hm hs, hq⟩
        · rw [not_rep hq] at hs
          exact .inl ⟨5, dk_add h hm hs (by decide), rfl, trivial⟩
      · rw [not_rep hp] at hm
        exact .inl ⟨5, dk_mul h hm (by decide), rfl, trivial⟩
theorem dot_rat {a b : List (Int × Int)} {N : Nat} {f g : Nat → Rat} (ha : NumsOf a N f) (hb : NumsOf b N g) (hf : ∀ j, j < N → Rep (f j)) (hg : ∀ j, j < N → Rep (g j)) : dotF a b = (0, 0, 5) ∨ (dotF a b = ((sg N fun j => f j * g j).num, ((sg N fun j => f j * g j).den : Int), 0) ∧ Rep (sg N fun j => f j * g j)) := by
  unfold dotF
  rw [if_pos (ha.1.trans hb.1.symm), ha.1]
  rcases dk_rat ha hb hf hg N (Nat.le_refl _) with ⟨c, h, hc, _⟩ | h
  · subst hc; exact .inl h
  · exact .inr h
theorem nums_frq (f : Nat → Rat) (N : Nat) : NumsOf (frq f N) N f := ⟨frq_len f N, fun j hj => by obtain ⟨h1, h2⟩ := frq_at (f := f) hj; exact ⟨h1.symm, h2.symm⟩⟩
/-- What a program's last tableau gives. -/
structure SolIs (n m : Nat) (A : Nat → Nat → Rat) (b c : Nat → Rat) (T : TB) : Prop where
  pf : PF n m A b (xB m T)
  cx : obj n c (xB m T) = T.z
  df : DF n m A c (fun i => -T.c (n + i))
  by' : obj m b (fun i => -T.c (n + i)) = T.z
  sml : Sml m (n + m) T
  tab : Tab m (n + m) T
def fr37 (R : List (List (Int × Int))) (i j : Nat) : Rat := rl (mr R i) j
theorem xB_rep {m N : Nat} {T : TB} (ht : Tab m N T) (hs : Sml m N T) (j : Nat) : Rep (xB m T j) := by
  by_cases h : ∃ i, i < m ∧ T.B i = j
  · obtain ⟨i, hi, rfl⟩ := h
    rw [xB_at ht hi]; exact hs.b i hi
  · rw [xB_no fun i hi e => h ⟨i, hi, e⟩]; exact rep_zero
theorem fin_sol {c : List (Int × Int)} {R : List (List (Int × Int))} {b : List (Int × Int)} {T : TB} (h0 : chk37 c R b = 0) (h : Fin R.length (c.length + R.length) (T37 c R b) (.ok T)) : SolIs c.length R.length (fr37 R) (rl b) (rl c) T := by
  have hz := chk_zero h0
  have hb : ∀ i, i < R.length → 0 ≤ rl b i := fun i hi => rl_nn (prL_iff.1 hz.2.2.2.2.2.1 i (by have := hz.2.2.1; omega)) (hz.2.2.2.2.2.2.2 i (by have := hz.2.2.1; omega))
  have hsm : Sml R.length (c.length + R.length) T := by
    obtain ⟨q, U, h1, h2⟩ := h
    cases h2 with
    | done _ => exact rn_sml (t37_sml h0) h1
  obtain ⟨h1, h2, h3⟩ := fin_ok (A := fr37 R) hb h
  obtain ⟨a1, a2, a3⟩ := opt_of h1 h2 h3
  exact ⟨a1, a2, dual_df h2 h3, (dual_of h2).1, hsm, h1⟩
theorem SolIs.xr {n m : Nat} {A : Nat → Nat → Rat} {b c : Nat → Rat} {T : TB} (h : SolIs n m A b c T) (j : Nat) : Rep (xB m T j) := xB_rep h.tab h.sml j
theorem SolIs.yr {n m : Nat} {A : Nat → Nat → Rat} {b c : Nat → Rat} {T : TB} (h : SolIs n m A b c T) {i : Nat} (hi : i < m) : Rep (-T.c (n + i)) := rep_neg.2 (h.sml.c _ (by omega))

end Go.Proofs.Ytaampjhdgeoicaa

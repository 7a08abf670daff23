/- The law CausalRelevant. -/
import Derived.Test.YtdkighaddldmcaaCauW
import Derived.Test.YtdkighaddldmcaaCauS
import Derived.Test.YtdkighaddldmcaaApp
import Derived.Deep.RegionHeld3
import Derived.Deep.DeepCutAuto
namespace Go.Proofs.Ytdkighaddldmcaa
set_option linter.unusedSimpArgs false
set_option linter.unusedVariables false
open Go.RowKit
set_option linter.unusedVariables false

/-- The task with a further goal fact. -/
def mor (t : Tsk) (x y : Int) : Tsk := ⟨t.vars, t.init, t.goal ++ [(x, y)], t.ops⟩
theorem fv_app {l : List (Int × Int)} {x y : Int} {k : Nat} (h : k < l.length) : fv (l ++ [(x, y)]) k = fv l k := by unfold fv; simp [List.getD, List.getElem?_append_left h]
theorem fv_last {l : List (Int × Int)} {x y : Int} : fv (l ++ [(x, y)]) l.length = x := by unfold fv; simp [List.getD]
theorem fx_app {l : List (Int × Int)} {x y : Int} {k : Nat} (h : k < l.length) : fx (l ++ [(x, y)]) k = fx l k := by unfold fx; simp [List.getD, List.getElem?_append_left h]
theorem fx_last {l : List (Int × Int)} {x y : Int} : fx (l ++ [(x, y)]) l.length = y := by unfold fx; simp [List.getD]
theorem mor_chk {t : Tsk} {x y : Int} (h : chkC t = 0) (hf : faB t.vars (t.goal ++ [(x, y)]) = true) : chkC (mor t x y) = 0 := by
  rw [← goT_chk] at h ⊢
  unfold goT at *
  simp only [Bool.and_eq_true] at h ⊢
  exact ⟨h.1, h.2.1, ⟨h.2.2.1.1, hf⟩, h.2.2.2⟩
theorem mor_rel {t : Tsk} {x y : Int} {v : Nat} (h : Rel t v) : Rel (mor t x y) v := by
  induction h with
  | @goal k v hk he => exact Rel.goal (k := k) (by show k < (t.goal ++ [(x, y)]).length; simp; omega) ((fv_app hk).trans he)
  | @step u v hr hu hv ha ih => exact Rel.step ih hu hv ha
theorem mor_relB {t : Tsk} {x y : Int} {v : Nat} (h : relB t v = true) : relB (mor t x y) v = true := relB_iff.2 (mor_rel (relB_iff.1 h))
theorem mor_last {t : Tsk} {y : Int} {v : Nat} : relB (mor t (v : Int) y) v = true := relB_iff.2 (Rel.goal (k := t.goal.length) (by show _ < (t.goal ++ [((v : Int), y)]).length; simp) fv_last)
theorem rel_goal {t : Tsk} {k v : Nat} (hk : k < t.goal.length) (e : fv t.goal k = (v : Int)) : relB t v = true := relB_iff.2 (Rel.goal hk e)

/-- Facts as cells; a row of facts of the call's own, read. -/
def fcc (l : List (Int × Int)) : List Value := l.flatMap fun f => [.int .i64 f.1, .int .i64 f.2]
theorem fcc_get : ∀ (l : List (Int × Int)) (k : Nat), k < l.length → (fcc l)[k * 2]? = some (.int .i64 (fv l k)) ∧ (fcc l)[k * 2 + 1]? = some (.int .i64 (fx l k))
  | f :: l, 0, _ => ⟨rfl, rfl⟩
  | f :: l, k + 1, h => by
    obtain ⟨h1, h2⟩ := fcc_get l k (by simp at h; omega)
    have e : fcc (f :: l) = .int .i64 f.1 :: .int .i64 f.2 :: fcc l := rfl
    rw [e, show (k + 1) * 2 = k * 2 + 1 + 1 by omega]
    exact ⟨h1, h2⟩
theorem fcc_len (l : List (Int × Int)) : (fcc l).length = l.length * 2 := by
  induction l with
  | nil => rfl
  | cons f l ih => show (_ :: _ :: fcc l).length = _; simp only [List.length_cons, ih]; omega
theorem fcc_app (a b : List (Int × Int)) : fcc (a ++ b) = fcc a ++ fcc b := by unfold fcc; rw [List.flatMap_append]
theorem fcc_at : ∀ {l : List (Int × Int)} {j : Nat} {u : Value}, (fcc l)[j]? = some u → ∃ k, k < l.length ∧ ((j = k * 2 ∧ u = .int .i64 (fv l k)) ∨ (j = k * 2 + 1 ∧ u = .int .i64 (fx l k)))
  | l, j, u, h => by
    have hj : j < l.length * 2 := by rw [← fcc_len]; exact (List.getElem?_eq_some_iff.1 h).1
    obtain ⟨h1, h2⟩ := fcc_get l (j / 2) (by omega)
    refine ⟨j / 2, by omega, ?_⟩
    rcases Nat.mod_two_eq_zero_or_one j with e | e
    · have e2 : j = j / 2 * 2 := by omega
      rw [← e2] at h1
      rw [h1] at h
      cases h
      exact .inl ⟨e2, rfl⟩
    · have e2 : j = j / 2 * 2 + 1 := by omega
      rw [← e2] at h2
      rw [h2] at h
      cases h
      exact .inr ⟨e2, rfl⟩
theorem facts_srcAt {w : World} {B : Nat} {A : Option Addr} {l : List (Int × Int)} {c : Nat} (h : FactsAt w B A l) (hA : A = none → c = 0) : SrcAt w A l.length c 2 (fcc l) where
  none := fun e => by
    refine ⟨?_, hA e⟩
    rcases Nat.eq_zero_or_pos l.length with h0 | h0
    · exact h0
    · obtain ⟨b, off, e2, _⟩ := h.2 h0; rw [e] at e2; cases e2
  len := fcc_len l
  cells := fun ad e j u hj => by
    obtain ⟨k, hk, hu⟩ := fcc_at hj
    obtain ⟨b, off, e2, _, hc⟩ := h.2 (by omega)
    rw [e] at e2
    cases e2
    rcases hu with ⟨rfl, rfl⟩ | ⟨rfl, rfl⟩
    · have h1 := (hc k hk).1
      simp [Addr.add]
      split
      · rename_i h0; have : k = 0 := by omega
        subst this; simpa using h1
      · simpa using h1
    · have h1 := (hc k hk).2
      simpa [Addr.add, Nat.add_assoc] using h1
  one := fun u hu => by unfold fcc at hu; simp at hu; obtain ⟨a, b, _, rfl | rfl⟩ := hu <;> rfl
theorem own_facts {w : World} {B n : Nat} {v : Value} {l : List (Int × Int)} (h : w.ownsRow B 28 2 v n (fcc l)) (hn : n = l.length) (hl : l.length ≤ 140737488355328) : ∃ A c, v = .slice A l.length c ∧ FactsAt w w.heap.size A l := by
  subst hn
  rcases h.2 with ⟨rfl, h0⟩ | ⟨b, cap, cur, rfl, hb, hg, hh⟩
  · exact ⟨none, 0, by rw [h0], hl, fun hn => absurd hn (by omega)⟩
  · refine ⟨_, cap, rfl, hl, fun _ => ⟨b, 0, rfl, (Array.getElem?_eq_some_iff.1 hg).1, fun k hk => ?_⟩⟩
    have h1 := h.cells (g := b) rfl (k * 2) _ (fcc_get l k hk).1
    have h2 := h.cells (g := b) rfl (k * 2 + 1) _ (fcc_get l k hk).2
    refine ⟨?_, ?_⟩
    · simp [Addr.add] at h1
      split at h1
      · rename_i h0; have h3 : k = 0 := by omega
        subst h3; simpa using h1
      · simpa using h1
    · simpa [Addr.add] using h2
theorem infoFc : (Try.prog.info? 28).map (fun i => (i.zero, i.size, i.bytes)) = some (some (.agg #[.int .i64 0, .int .i64 0]), 2, 16) := by kernel_rfl
theorem undFc : Try.prog.underlying 23 = some (.slice 28) := by kernel_rfl

end Go.Proofs.Ytdkighaddldmcaa

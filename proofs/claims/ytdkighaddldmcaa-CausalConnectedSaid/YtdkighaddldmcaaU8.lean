/- Bytes in memory: a []uint8; a state's place in the restricted task's states. -/
import Derived.Test.YtdkighaddldmcaaResQ
namespace Go.Proofs.Ytdkighaddldmcaa
set_option linter.unusedSimpArgs false
set_option linter.unusedVariables false
open Go.RowKit
set_option linter.unusedVariables false

def U8At (w : World) (B : Nat) (A : Option Addr) (l : List Int) : Prop :=
  l.length ≤ 140737488355328 ∧ (0 < l.length → ∃ b off, A = some ⟨b, off, none⟩ ∧ b < B ∧ ∀ k, k < l.length → w.cell? ⟨b, off + k, none⟩ = some (.int .u8 (nth l k)) ∧ 0 ≤ nth l k ∧ nth l k ≤ 255)
theorem U8At.at_ {w : World} {B : Nat} {A : Option Addr} {l : List Int} (h : U8At w B A l) {k : Nat} (hk : k < l.length) : ∃ b off, A = some ⟨b, off, none⟩ ∧ b < B ∧ ∀ k, k < l.length → w.cell? ⟨b, off + k, none⟩ = some (.int .u8 (nth l k)) ∧ 0 ≤ nth l k ∧ nth l k ≤ 255 := h.2 (by omega)
theorem stP_setR {vars s : List Int} (h : StP vars s) {i : Nat} {x : Int} (hi : i < s.length) (h0 : 0 ≤ x) (h1 : x < nth vars i) : StP vars (s.set i x) := by
  refine ⟨by rw [List.length_set]; exact h.1, fun k hk => ?_⟩
  rw [List.length_set] at hk
  rw [nth_set hi]
  split
  · rename_i e; subst e; exact ⟨h0, h1⟩
  · exact h.2 k hk
theorem st_apR {t : Tsk} {s : List Int} (hr : Right t) (hs : stB t.vars s = true) {k : Nat} (hk : k < t.ops.length) : ∀ j, j ≤ (opr t.ops k).effs.length → stB t.vars (apE s (opr t.ops k).effs j) = true
  | 0, _ => hs
  | j + 1, hj => by
    have ih := st_apR hr hs hk j (by omega)
    have he := hr.eff k hk j (by omega)
    show stB t.vars (if hoB (eff (opr t.ops k).effs j).whn s then (apE s (opr t.ops k).effs j).set (eff (opr t.ops k).effs j).var.toNat (eff (opr t.ops k).effs j).val else apE s (opr t.ops k).effs j) = true
    split
    · unfold stB at *
      simp only [decide_eq_true_eq] at *
      exact stP_setR ih (by rw [ih.1]; omega) he.2.2.1 he.2.2.2
    · exact ih
theorem st_nxtR {t : Tsk} {s : List Int} (hr : Right t) (hs : stB t.vars s = true) {k : Nat} (hk : k < t.ops.length) : stB t.vars (nxt t s k) = true := st_apR hr hs hk _ (Nat.le_refl _)

end Go.Proofs.Ytdkighaddldmcaa

/- Clone. -/
import Derived.Test.YtdkighaddldmcaaTaskF
import Derived.Lib.BufferMore
namespace Go.Proofs.Ytdkighaddldmcaa
set_option linter.unusedSimpArgs false
set_option linter.unusedVariables false
open Go.RowKit
set_option linter.unusedVariables false

theorem infoI : (Try.prog.info? 3).map (fun i => (i.zero, i.size, i.bytes)) = some (some (.int .i64 0), 1, 8) := by kernel_rfl
theorem undI : Try.prog.underlying 22 = some (.slice 3) := by kernel_rfl

/-- A list of numbers as cells. -/
def ic (l : List Int) : List Value := l.map (.int .i64)
theorem ic_get {l : List Int} {k : Nat} (h : k < l.length) : (ic l)[k]? = some (.int .i64 (nth l k)) := by unfold ic nth; simp [List.getD, List.getElem?_eq_getElem h]
/-- A row of the call's own, read as a list of numbers. -/
theorem own_ints {w : World} {B : Nat} {v : Value} {l : List Int} (h : w.ownsRow B 3 1 v l.length (ic l)) (hl : l.length ≤ 140737488355328) : ∃ A c, v = .slice A l.length c ∧ IntsAt w w.heap.size A l := by
  rcases h.2 with ⟨rfl, h0⟩ | ⟨b, cap, cur, rfl, hb, hg, hh⟩
  · rw [h0]; exact ⟨none, 0, rfl, hl, fun hn => absurd hn (by omega)⟩
  · refine ⟨_, cap, rfl, hl, fun _ => ⟨b, 0, rfl, (Array.getElem?_eq_some_iff.1 hg).1, fun k hk => ?_⟩⟩
    have := h.cells (g := b) rfl k _ (ic_get hk)
    simp [Addr.add] at this
    split at this
    · rename_i h0; subst h0; exact this
    · simpa using this

end Go.Proofs.Ytdkighaddldmcaa

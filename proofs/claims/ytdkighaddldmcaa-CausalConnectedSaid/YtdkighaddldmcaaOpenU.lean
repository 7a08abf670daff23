/- An argument opened: bytes. -/
import Derived.Test.YtdkighaddldmcaaOpenR
import Derived.Test.YtdkighaddldmcaaU8
namespace Go.Proofs.Ytdkighaddldmcaa
set_option linter.unusedSimpArgs false
set_option linter.unusedVariables false
open Go.RowKit Go.ChangeShapes Go.WideShapes Go.Deep Go.Joins

section
variable {H : Type} {enc : TypeId × Value → H} {w : World}
theorem bounds_b8 {x : Int} (h : (Lit.int .u8 x).wf = true) : 0 ≤ x ∧ x ≤ 255 := by
  simp [Lit.wf, IntKind.min, IntKind.max, IntKind.signed, IntKind.bits] at h
  exact ⟨by omega, by omega⟩
theorem open_U8At {cs : List Value} {d : DataW H} (h : Reads enc Try.prog w 52 cs d) (hf : Fits Try.prog 52 d) : ∃ A l c, cs = [.slice A l.length c] ∧ (A = none → c = 0) ∧ U8At w w.heap.size A l := by
  obtain ⟨A, len, c, rfl, h0, hl, hr⟩ := open_row Try.underlying52 (show Try.prog.cellsOf 5 = 1 by kernel_rfl) (by decide) (show 0 < Try.prog.bytesOf 5 by exact of_decide_eq_true (by kernel_rfl)) h hf
  rcases Nat.eq_zero_or_pos len with rfl | hp
  · exact ⟨A, [], c, rfl, h0, ⟨by simp, fun h => absurd h (by simp)⟩⟩
  · obtain ⟨b, off, rfl, hb, hi⟩ := hr hp
    obtain ⟨l, hll, hlp⟩ := list_of (0 : Int) len (fun i x => w.cell? ⟨b, off + i, none⟩ = some (.int .u8 x) ∧ 0 ≤ x ∧ x ≤ 255) fun i hil => by
      obtain ⟨es, D, hel, hc, ⟨_, _, hd⟩, _⟩ := hi i hil
      obtain ⟨x, rfl, _, hw⟩ := DataW.trod_int Try.underlying5 hd
      exact ⟨x, by simpa using hc 0 (by omega), bounds_b8 hw⟩
    subst hll
    exact ⟨_, l, c, rfl, h0, ⟨by omega, fun _ => ⟨b, off, rfl, hb, fun k hk => hlp k hk⟩⟩⟩
end
section
variable {H : Type} {enc : TypeId × Value → H} {W : World} {base : Nat} {v : Value} {d : DataW H} {p : List MemPlace}
set_option maxRecDepth 100000 in
theorem arg_u8s (hv : Value.okWide Try.prog W .any base 52 v) (h : DataW.Trod enc Try.prog W 0 (fun _ => true) true 52 v d p) (hf : Fits Try.prog 52 d) : ∃ A l c, v = .slice A l.length c ∧ (A = none → c = 0) ∧ U8At W W.heap.size A l := by
  obtain ⟨a, n, c, rfl⟩ := okWide_slice Try.underlying52 hv
  obtain ⟨fuel, h⟩ := h
  obtain ⟨A, l, c', e, r⟩ := open_U8At (cs := [.slice a n c]) ⟨fuel, p, h⟩ hf
  simp only [List.cons.injEq, Value.slice.injEq, and_true] at e
  obtain ⟨rfl, rfl, rfl⟩ := e
  exact ⟨_, l, _, rfl, r⟩
end

end Go.Proofs.Ytdkighaddldmcaa

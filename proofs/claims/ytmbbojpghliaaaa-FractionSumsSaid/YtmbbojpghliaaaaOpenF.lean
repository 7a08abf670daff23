/- Arguments opened: lists of fractions, of 16-bit numbers. -/
import Derived.Test.YtmbbojpghliaaaaOpenG
import Derived.Test.YtmbbojpghliaaaaFracW
namespace Go.Proofs.Ytmbbojpghliaaaa
set_option linter.unusedSimpArgs false
set_option linter.unusedVariables false
open Go.RowKit Go.ChangeShapes Go.WideShapes Go.Deep Go.Joins

section
variable {H : Type} {enc : TypeId × Value → H} {w : World}
theorem open_Frac {cs : List Value} {d : DataW H} (hl : cs.length = 2) (h : Reads enc Try.prog w 24 cs d) (hf : Fits Try.prog 24 d) : ∃ v x, cs = [.int .i64 v, .int .i64 x] := by
  match cs, hl with
  | [c0, c1], _ =>
    obtain ⟨D0, r0, _⟩ := open_fields Try.underlying24 (by kernel_rfl) h hf 0 _ c0 rfl rfl
    obtain ⟨D1, r1, _⟩ := open_fields Try.underlying24 (by kernel_rfl) h hf 1 _ c1 rfl rfl
    obtain ⟨v, hv, _⟩ := open_num r0
    obtain ⟨x, hx, _⟩ := open_num r1
    simp at hv hx
    subst hv hx
    exact ⟨v, x, rfl⟩
theorem open_FracsAt {cs : List Value} {d : DataW H} (h : Reads enc Try.prog w 40 cs d) (hf : Fits Try.prog 40 d) : ∃ A l c, cs = [.slice A l.length c] ∧ (A = none → c = 0) ∧ FactsAt w w.heap.size A l := by
  obtain ⟨A, len, c, rfl, h0, hl, hr⟩ := open_row Try.underlying40 (show Try.prog.cellsOf 24 = 2 by kernel_rfl) (by decide) (show 0 < Try.prog.bytesOf 24 by exact of_decide_eq_true (by kernel_rfl)) h hf
  rcases Nat.eq_zero_or_pos len with rfl | hp
  · exact ⟨A, [], c, rfl, h0, ⟨by simp, fun h => absurd h (by simp)⟩⟩
  · obtain ⟨b, off, rfl, hb, hi⟩ := hr hp
    obtain ⟨l, hll, hlp⟩ := list_of ((0, 0) : Int × Int) len (fun i x => w.cell? ⟨b, off + i * 2, none⟩ = some (.int .i64 x.1) ∧ w.cell? ⟨b, off + i * 2 + 1, none⟩ = some (.int .i64 x.2)) fun i hil => by
      obtain ⟨es, D, hel, hc, hd, hfd⟩ := hi i hil
      obtain ⟨v, x, rfl⟩ := open_Frac hel hd hfd
      exact ⟨(v, x), by simpa using hc 0 (by omega), by simpa using hc 1 (by omega)⟩
    subst hll
    exact ⟨_, l, c, rfl, h0, ⟨by omega, fun _ => ⟨b, off, rfl, hb, fun k hk => hlp k hk⟩⟩⟩
theorem bounds_i16 {x : Int} (h : (Lit.int .i16 x).wf = true) : -32768 ≤ x ∧ x ≤ 32767 := by
  simp [Lit.wf, IntKind.min, IntKind.max, IntKind.signed, IntKind.bits] at h
  exact ⟨by omega, by omega⟩
theorem bounds_u8 {x : Int} (h : (Lit.int .u8 x).wf = true) : 0 ≤ x ∧ x ≤ 255 := by
  simp [Lit.wf, IntKind.min, IntKind.max, IntKind.signed, IntKind.bits] at h
  exact ⟨by omega, by omega⟩
theorem open_I16At {cs : List Value} {d : DataW H} (h : Reads enc Try.prog w 41 cs d) (hf : Fits Try.prog 41 d) : ∃ A l c, cs = [.slice A l.length c] ∧ (A = none → c = 0) ∧ I16At w w.heap.size A l ∧ ∀ x ∈ l, -32768 ≤ x ∧ x ≤ 32767 := by
  obtain ⟨A, len, c, rfl, h0, hl, hr⟩ := open_row Try.underlying41 (show Try.prog.cellsOf 44 = 1 by kernel_rfl) (by decide) (show 0 < Try.prog.bytesOf 44 by exact of_decide_eq_true (by kernel_rfl)) h hf
  rcases Nat.eq_zero_or_pos len with rfl | hp
  · exact ⟨A, [], c, rfl, h0, ⟨by simp, fun h => absurd h (by simp)⟩, fun x hx => by cases hx⟩
  · obtain ⟨b, off, rfl, hb, hi⟩ := hr hp
    obtain ⟨l, hll, hlp⟩ := list_of (0 : Int) len (fun i x => w.cell? ⟨b, off + i, none⟩ = some (.int .i16 x) ∧ -32768 ≤ x ∧ x ≤ 32767) fun i hil => by
      obtain ⟨es, D, hel, hc, ⟨_, _, hd⟩, _⟩ := hi i hil
      obtain ⟨x, rfl, _, hw⟩ := DataW.trod_int Try.underlying44 hd
      exact ⟨x, by simpa using hc 0 (by omega), bounds_i16 hw⟩
    subst hll
    refine ⟨_, l, c, rfl, h0, ⟨by omega, fun _ => ⟨b, off, rfl, hb, fun k hk => (hlp k hk).1⟩⟩, fun x hx => ?_⟩
    obtain ⟨k, hk, rfl⟩ := List.mem_iff_getElem.1 hx
    have := (hlp k hk).2
    simpa [List.getD, List.getElem?_eq_getElem hk] using this
end

section
variable {H : Type} {enc : TypeId × Value → H} {W : World} {base : Nat} {v : Value} {d : DataW H} {p : List MemPlace}
set_option maxRecDepth 100000 in
theorem arg_fracs (hv : Value.okWide Try.prog W .any base 40 v) (h : DataW.Trod enc Try.prog W 0 (fun _ => true) true 40 v d p) (hf : Fits Try.prog 40 d) : ∃ A l c, v = .slice A l.length c ∧ (A = none → c = 0) ∧ FactsAt W W.heap.size A l := by
  obtain ⟨a, n, c, rfl⟩ := okWide_slice Try.underlying40 hv
  obtain ⟨fuel, h⟩ := h
  obtain ⟨A, l, c', e, r⟩ := open_FracsAt (cs := [.slice a n c]) ⟨fuel, p, h⟩ hf
  simp only [List.cons.injEq, Value.slice.injEq, and_true] at e
  obtain ⟨rfl, rfl, rfl⟩ := e
  exact ⟨_, l, _, rfl, r⟩
set_option maxRecDepth 100000 in
theorem arg_i16s (hv : Value.okWide Try.prog W .any base 41 v) (h : DataW.Trod enc Try.prog W 0 (fun _ => true) true 41 v d p) (hf : Fits Try.prog 41 d) : ∃ A l c, v = .slice A l.length c ∧ (A = none → c = 0) ∧ I16At W W.heap.size A l ∧ ∀ x ∈ l, -32768 ≤ x ∧ x ≤ 32767 := by
  obtain ⟨a, n, c, rfl⟩ := okWide_slice Try.underlying41 hv
  obtain ⟨fuel, h⟩ := h
  obtain ⟨A, l, c', e, r⟩ := open_I16At (cs := [.slice a n c]) ⟨fuel, p, h⟩ hf
  simp only [List.cons.injEq, Value.slice.injEq, and_true] at e
  obtain ⟨rfl, rfl, rfl⟩ := e
  exact ⟨_, l, _, rfl, r⟩
set_option maxRecDepth 100000 in
theorem arg_u8 (hv : Value.okWide Try.prog W .any base 5 v) (h : DataW.Trod enc Try.prog W 0 (fun _ => true) true 5 v d p) : ∃ x : Int, v = .int .u8 x ∧ 0 ≤ x ∧ x ≤ 255 := by
  obtain ⟨x, rfl, _, _, wx⟩ := open_int Try.underlying5 hv h
  exact ⟨x, rfl, bounds_u8 wx⟩
end

end Go.Proofs.Ytmbbojpghliaaaa

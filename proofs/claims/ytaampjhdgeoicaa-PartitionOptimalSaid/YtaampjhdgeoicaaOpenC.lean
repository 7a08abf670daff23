/- Arguments opened: lists of numbers, of cuts, of fractions. -/
import Derived.Test.YtaampjhdgeoicaaOpenG
import Derived.Test.YtaampjhdgeoicaaMfC
namespace Go.Proofs.Ytaampjhdgeoicaa
set_option linter.unusedSimpArgs false
set_option linter.unusedVariables false
open Go.RowKit Go.ChangeShapes Go.WideShapes Go.Deep Go.Joins

/-- Every number is one of 64 bits. -/
def InI (l : List Int) : Prop := ∀ k, -9223372036854775808 ≤ nth l k ∧ nth l k ≤ 9223372036854775807

section
variable {H : Type} {enc : TypeId × Value → H} {w : World}
theorem open_IntsAt {cs : List Value} {d : DataW H} (h : Reads enc Try.prog w 38 cs d) (hf : Fits Try.prog 38 d) : ∃ A l c, cs = [.slice A l.length c] ∧ (A = none → c = 0) ∧ IntsAt w w.heap.size A l ∧ InI l := by
  obtain ⟨A, len, c, rfl, h0, hl, hr⟩ := open_row Try.underlying38 (show Try.prog.cellsOf 3 = 1 by kernel_rfl) (by decide) (show 0 < Try.prog.bytesOf 3 by exact of_decide_eq_true (by kernel_rfl)) h hf
  rcases Nat.eq_zero_or_pos len with rfl | hp
  · exact ⟨A, [], c, rfl, h0, ⟨by simp, fun h => absurd h (by simp)⟩, fun k => by simp [nth]⟩
  · obtain ⟨b, off, rfl, hb, hi⟩ := hr hp
    obtain ⟨l, hll, hlp⟩ := list_of (0 : Int) len (fun i x => w.cell? ⟨b, off + i, none⟩ = some (.int .i64 x) ∧ -9223372036854775808 ≤ x ∧ x ≤ 9223372036854775807) fun i hil => by
      obtain ⟨es, D, hel, hc, hd, _⟩ := hi i hil
      obtain ⟨x, rfl, hx⟩ := open_num hd
      exact ⟨x, by simpa using hc 0 (by omega), hx⟩
    subst hll
    refine ⟨_, l, c, rfl, h0, ⟨by omega, fun _ => ⟨b, off, rfl, hb, fun k hk => (hlp k hk).1⟩⟩, fun k => ?_⟩
    by_cases hk : k < l.length
    · exact (hlp k hk).2
    · simp [nth, List.getD, List.getElem?_eq_none (show l.length ≤ k by omega)]
theorem open_CutsAt {cs : List Value} {d : DataW H} (h : Reads enc Try.prog w 39 cs d) (hf : Fits Try.prog 39 d) : ∃ A l c, cs = [.slice A l.length c] ∧ (A = none → c = 0) ∧ CutsAt w w.heap.size A l := by
  obtain ⟨A, len, c, rfl, h0, hl, hr⟩ := open_row Try.underlying39 (show Try.prog.cellsOf 82 = 2 by kernel_rfl) (by decide) (show 0 < Try.prog.bytesOf 82 by exact of_decide_eq_true (by kernel_rfl)) h hf
  rcases Nat.eq_zero_or_pos len with rfl | hp
  · exact ⟨A, [], c, rfl, h0, ⟨by simp, fun h => absurd h (by simp)⟩⟩
  · obtain ⟨b, off, rfl, hb, hi⟩ := hr hp
    obtain ⟨l, hll, hlp⟩ := list_of Cut.none len (fun i e => ∃ S c, w.cell? ⟨b, off + i * 2, none⟩ = some (.slice S e.ops.length c) ∧ IntsAt w w.heap.size S e.ops ∧ w.cell? ⟨b, off + i * 2 + 1, none⟩ = some (.int .i64 e.cost)) fun i hil => by
      obtain ⟨es, D, hel, hc, hd, hfd⟩ := hi i hil
      match es, hel with
      | [c0, c1], _ =>
        obtain ⟨D0, r0, f0⟩ := open_fields Try.underlying82 (by kernel_rfl) hd hfd 0 _ c0 rfl rfl
        obtain ⟨D1, r1, _⟩ := open_fields Try.underlying82 (by kernel_rfl) hd hfd 1 _ c1 rfl rfl
        obtain ⟨S, l, c, hw, _, hF, _⟩ := open_IntsAt r0 f0
        obtain ⟨v, hv, _⟩ := open_num r1
        simp at hw hv
        subst hw hv
        exact ⟨⟨l, v⟩, S, c, by simpa using hc 0 (by omega), hF, by simpa using hc 1 (by omega)⟩
    subst hll
    exact ⟨_, l, c, rfl, h0, ⟨by omega, fun _ => ⟨b, off, rfl, hb, fun k hk => hlp k hk⟩⟩⟩
theorem open_Frac {cs : List Value} {d : DataW H} (hl : cs.length = 2) (h : Reads enc Try.prog w 29 cs d) (hf : Fits Try.prog 29 d) : ∃ v x, cs = [.int .i64 v, .int .i64 x] := by
  match cs, hl with
  | [c0, c1], _ =>
    obtain ⟨D0, r0, _⟩ := open_fields Try.underlying29 (by kernel_rfl) h hf 0 _ c0 rfl rfl
    obtain ⟨D1, r1, _⟩ := open_fields Try.underlying29 (by kernel_rfl) h hf 1 _ c1 rfl rfl
    obtain ⟨v, hv, _⟩ := open_num r0
    obtain ⟨x, hx, _⟩ := open_num r1
    simp at hv hx
    subst hv hx
    exact ⟨v, x, rfl⟩
theorem open_FracsAt {cs : List Value} {d : DataW H} (h : Reads enc Try.prog w 22 cs d) (hf : Fits Try.prog 22 d) : ∃ A l c, cs = [.slice A l.length c] ∧ (A = none → c = 0) ∧ FactsAt w w.heap.size A l := by
  obtain ⟨A, len, c, rfl, h0, hl, hr⟩ := open_row Try.underlying22 (show Try.prog.cellsOf 29 = 2 by kernel_rfl) (by decide) (show 0 < Try.prog.bytesOf 29 by exact of_decide_eq_true (by kernel_rfl)) h hf
  rcases Nat.eq_zero_or_pos len with rfl | hp
  · exact ⟨A, [], c, rfl, h0, ⟨by simp, fun h => absurd h (by simp)⟩⟩
  · obtain ⟨b, off, rfl, hb, hi⟩ := hr hp
    obtain ⟨l, hll, hlp⟩ := list_of ((0, 0) : Int × Int) len (fun i x => w.cell? ⟨b, off + i * 2, none⟩ = some (.int .i64 x.1) ∧ w.cell? ⟨b, off + i * 2 + 1, none⟩ = some (.int .i64 x.2)) fun i hil => by
      obtain ⟨es, D, hel, hc, hd, hfd⟩ := hi i hil
      obtain ⟨v, x, rfl⟩ := open_Frac hel hd hfd
      exact ⟨(v, x), by simpa using hc 0 (by omega), by simpa using hc 1 (by omega)⟩
    subst hll
    exact ⟨_, l, c, rfl, h0, ⟨by omega, fun _ => ⟨b, off, rfl, hb, fun k hk => hlp k hk⟩⟩⟩
end

section
variable {H : Type} {enc : TypeId × Value → H} {W : World} {base : Nat} {v : Value} {d : DataW H} {p : List MemPlace}
set_option maxRecDepth 100000 in
theorem arg_ints (hv : Value.okWide Try.prog W .any base 38 v) (h : DataW.Trod enc Try.prog W 0 (fun _ => true) true 38 v d p) (hf : Fits Try.prog 38 d) : ∃ A l c, v = .slice A l.length c ∧ (A = none → c = 0) ∧ IntsAt W W.heap.size A l ∧ InI l := by
  obtain ⟨a, n, c, rfl⟩ := okWide_slice Try.underlying38 hv
  obtain ⟨fuel, h⟩ := h
  obtain ⟨A, l, c', e, r⟩ := open_IntsAt (cs := [.slice a n c]) ⟨fuel, p, h⟩ hf
  simp only [List.cons.injEq, Value.slice.injEq, and_true] at e
  obtain ⟨rfl, rfl, rfl⟩ := e
  exact ⟨_, l, _, rfl, r⟩
set_option maxRecDepth 100000 in
theorem arg_cuts (hv : Value.okWide Try.prog W .any base 39 v) (h : DataW.Trod enc Try.prog W 0 (fun _ => true) true 39 v d p) (hf : Fits Try.prog 39 d) : ∃ A l c, v = .slice A l.length c ∧ (A = none → c = 0) ∧ CutsAt W W.heap.size A l := by
  obtain ⟨a, n, c, rfl⟩ := okWide_slice Try.underlying39 hv
  obtain ⟨fuel, h⟩ := h
  obtain ⟨A, l, c', e, r⟩ := open_CutsAt (cs := [.slice a n c]) ⟨fuel, p, h⟩ hf
  simp only [List.cons.injEq, Value.slice.injEq, and_true] at e
  obtain ⟨rfl, rfl, rfl⟩ := e
  exact ⟨_, l, _, rfl, r⟩
set_option maxRecDepth 100000 in
theorem arg_fracs (hv : Value.okWide Try.prog W .any base 22 v) (h : DataW.Trod enc Try.prog W 0 (fun _ => true) true 22 v d p) (hf : Fits Try.prog 22 d) : ∃ A l c, v = .slice A l.length c ∧ (A = none → c = 0) ∧ FactsAt W W.heap.size A l := by
  obtain ⟨a, n, c, rfl⟩ := okWide_slice Try.underlying22 hv
  obtain ⟨fuel, h⟩ := h
  obtain ⟨A, l, c', e, r⟩ := open_FracsAt (cs := [.slice a n c]) ⟨fuel, p, h⟩ hf
  simp only [List.cons.injEq, Value.slice.injEq, and_true] at e
  obtain ⟨rfl, rfl, rfl⟩ := e
  exact ⟨_, l, _, rfl, r⟩
end

end Go.Proofs.Ytaampjhdgeoicaa

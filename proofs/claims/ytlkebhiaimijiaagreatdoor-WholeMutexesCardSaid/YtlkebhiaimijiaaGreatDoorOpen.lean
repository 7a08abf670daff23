/- Arguments opened: what the cells of a datum hold that is read. -/
import Derived.Test.YtlkebhiaimijiaaGreatDoorNgA
import Derived.Test.YtlkebhiaimijiaaGreatDoorNgQ
namespace Go.Proofs.YtlkebhiaimijiaaGreatDoor
set_option linter.unusedSimpArgs false
set_option linter.unusedVariables false
open Go.RowKit Go.ChangeShapes Go.WideShapes Go.Deep Go.Joins

/-- Every number is one of 64 bits. -/
def InI (l : List Int) : Prop := ∀ k, -9223372036854775808 ≤ nth l k ∧ nth l k ≤ 9223372036854775807

section
variable {H : Type} {enc : TypeId × Value → H} {w : World}
theorem open_text {cs : List Value} {d : DataW H} (h : Reads enc Tryz.prog w 9 cs d) (hf : Fits Tryz.prog 9 d) : ∃ s, cs = [.string s] ∧ s.size ≤ 140737488351232 := by
 obtain ⟨_, _, h⟩ := h
 obtain ⟨x, rfl, hx, hw⟩ := DataW.trod_string Tryz.underlying9 h
 simp only [Prod.mk.injEq] at hx
 obtain ⟨rfl, _⟩ := hx
 have := hf x.data.toList.length (by simp [DataW.weights])
 have hr : reachBytes = 140737488351232 := rfl
 exact ⟨x, rfl, by rw [hr] at this; simpa using this⟩
theorem open_IntsAt {cs : List Value} {d : DataW H} (h : Reads enc Tryz.prog w 22 cs d) (hf : Fits Tryz.prog 22 d) : ∃ A l c, cs = [.slice A l.length c] ∧ (A = none → c = 0) ∧ IntsAt w w.heap.size A l ∧ InI l := by
 obtain ⟨A, len, c, rfl, h0, hl, hr⟩ := open_row Tryz.underlying22 (show Tryz.prog.cellsOf 3 = 1 by kernel_rfl) (by decide) (show 0 < Tryz.prog.bytesOf 3 by exact of_decide_eq_true (by kernel_rfl)) h hf
 rcases Nat.eq_zero_or_pos len with rfl | hp
 ·exact ⟨A, [], c, rfl, h0, ⟨by simp, fun h => absurd h (by simp)⟩, fun k => by simp [nth]⟩
 ·obtain ⟨b, off, rfl, hb, hi⟩ := hr hp
  obtain ⟨l, hll, hlp⟩ := list_of (0 : Int) len (fun i x => w.cell? ⟨b, off + i, none⟩ = some (.int .i64 x) ∧ -9223372036854775808 ≤ x ∧ x ≤ 9223372036854775807) fun i hil => by
   obtain ⟨es, D, hel, hc, hd, _⟩ := hi i hil
   obtain ⟨x, rfl, hx⟩ := open_num hd
   exact ⟨x, by first | exact hc 0 (by omega) | simpa using hc 0 (by omega), hx⟩
  subst hll
  refine ⟨_, l, c, rfl, h0, ⟨by omega, fun _ => ⟨b, off, rfl, hb, fun k hk => (hlp k hk).1⟩⟩, fun k => ?_⟩
  by_cases hk : k < l.length
  ·exact (hlp k hk).2
  ·simp [nth, List.getD, List.getElem?_eq_none (show l.length ≤ k by omega)]
theorem open_Fact {cs : List Value} {d : DataW H} (hl : cs.length = 2) (h : Reads enc Tryz.prog w 68 cs d) (hf : Fits Tryz.prog 68 d) : ∃ v x, cs = [.int .i64 v, .int .i64 x] := by
 match cs, hl with
 | [c0, c1], _ =>
  obtain ⟨D0, r0, _⟩ := open_fields Tryz.underlying68 (by kernel_rfl) h hf 0 _ c0 rfl rfl
  obtain ⟨D1, r1, _⟩ := open_fields Tryz.underlying68 (by kernel_rfl) h hf 1 _ c1 rfl rfl
  obtain ⟨v, hv, _⟩ := open_num r0
  obtain ⟨x, hx, _⟩ := open_num r1
  simp at hv hx
  subst hv hx
  exact ⟨v, x, rfl⟩
theorem open_FactsAt {cs : List Value} {d : DataW H} (h : Reads enc Tryz.prog w 23 cs d) (hf : Fits Tryz.prog 23 d) : ∃ A l c, cs = [.slice A l.length c] ∧ (A = none → c = 0) ∧ FactsAt w w.heap.size A l := by
 obtain ⟨A, len, c, rfl, h0, hl, hr⟩ := open_row Tryz.underlying23 (show Tryz.prog.cellsOf 68 = 2 by kernel_rfl) (by decide) (show 0 < Tryz.prog.bytesOf 68 by exact of_decide_eq_true (by kernel_rfl)) h hf
 rcases Nat.eq_zero_or_pos len with rfl | hp
 ·exact ⟨A, [], c, rfl, h0, ⟨by simp, fun h => absurd h (by simp)⟩⟩
 ·obtain ⟨b, off, rfl, hb, hi⟩ := hr hp
  obtain ⟨l, hll, hlp⟩ := list_of ((0, 0) : Int × Int) len (fun i x => w.cell? ⟨b, off + i * 2, none⟩ = some (.int .i64 x.1) ∧ w.cell? ⟨b, off + i * 2 + 1, none⟩ = some (.int .i64 x.2)) fun i hil => by
   obtain ⟨es, D, hel, hc, hd, hfd⟩ := hi i hil
   obtain ⟨v, x, rfl⟩ := open_Fact hel hd hfd
   exact ⟨(v, x), by first | exact hc 0 (by omega) | simpa using hc 0 (by omega), by first | exact hc 1 (by omega) | simpa using hc 1 (by omega)⟩
  subst hll
  exact ⟨_, l, c, rfl, h0, ⟨by omega, fun _ => ⟨b, off, rfl, hb, fun k hk => hlp k hk⟩⟩⟩
theorem open_EffsAt {cs : List Value} {d : DataW H} (h : Reads enc Tryz.prog w 61 cs d) (hf : Fits Tryz.prog 61 d) : ∃ A l c, cs = [.slice A l.length c] ∧ (A = none → c = 0) ∧ EffsAt w w.heap.size A l := by
 obtain ⟨A, len, c, rfl, h0, hl, hr⟩ := open_row Tryz.underlying61 (show Tryz.prog.cellsOf 65 = 3 by kernel_rfl) (by decide) (show 0 < Tryz.prog.bytesOf 65 by exact of_decide_eq_true (by kernel_rfl)) h hf
 rcases Nat.eq_zero_or_pos len with rfl | hp
 ·exact ⟨A, [], c, rfl, h0, ⟨by simp, fun h => absurd h (by simp)⟩⟩
 ·obtain ⟨b, off, rfl, hb, hi⟩ := hr hp
  obtain ⟨l, hll, hlp⟩ := list_of Eff.none len (fun i e => ∃ S c, w.cell? ⟨b, off + i * 3, none⟩ = some (.slice S e.whn.length c) ∧ FactsAt w w.heap.size S e.whn ∧ w.cell? ⟨b, off + i * 3 + 1, none⟩ = some (.int .i64 e.var) ∧ w.cell? ⟨b, off + i * 3 + 2, none⟩ = some (.int .i64 e.val)) fun i hil => by
   obtain ⟨es, D, hel, hc, hd, hfd⟩ := hi i hil
   match es, hel with
   | [c0, c1, c2], _ =>
    obtain ⟨D0, r0, f0⟩ := open_fields Tryz.underlying65 (by kernel_rfl) hd hfd 0 _ c0 rfl rfl
    obtain ⟨D1, r1, _⟩ := open_fields Tryz.underlying65 (by kernel_rfl) hd hfd 1 _ c1 rfl rfl
    obtain ⟨D2, r2, _⟩ := open_fields Tryz.underlying65 (by kernel_rfl) hd hfd 2 _ c2 rfl rfl
    obtain ⟨S, l, c, hw, _, hF⟩ := open_FactsAt r0 f0
    obtain ⟨v, hv, _⟩ := open_num r1
    obtain ⟨x, hx, _⟩ := open_num r2
    simp at hw hv hx
    subst hw hv hx
    exact ⟨⟨l, v, x⟩, S, c, by first | exact hc 0 (by omega) | simpa using hc 0 (by omega), hF, by first | exact hc 1 (by omega) | simpa using hc 1 (by omega), by first | exact hc 2 (by omega) | simpa using hc 2 (by omega)⟩
  subst hll
  exact ⟨_, l, c, rfl, h0, ⟨by omega, fun _ => ⟨b, off, rfl, hb, fun k hk => hlp k hk⟩⟩⟩
theorem open_OpsAt {cs : List Value} {d : DataW H} (h : Reads enc Tryz.prog w 24 cs d) (hf : Fits Tryz.prog 24 d) : ∃ A l c, cs = [.slice A l.length c] ∧ (A = none → c = 0) ∧ OpsAt w w.heap.size A l := by
  obtain ⟨A, len, c, rfl, h0, hl, hr⟩ := open_row Tryz.underlying24 (show Tryz.prog.cellsOf 63 = 4 by kernel_rfl) (by decide) (show 0 < Tryz.prog.bytesOf 63 by exact of_decide_eq_true (by kernel_rfl)) h hf
  rcases Nat.eq_zero_or_pos len with rfl | hp
  · exact ⟨A, [], c, rfl, h0, ⟨by simp, fun h => absurd h (by simp)⟩⟩
  · obtain ⟨b, off, rfl, hb, hi⟩ := hr hp
    obtain ⟨l, hll, hlp⟩ := list_of Opr.none len (fun i o => ∃ S c T d, w.cell? ⟨b, off + i * 4, none⟩ = some (.string o.name) ∧ o.name.size ≤ 140737488355328 ∧ w.cell? ⟨b, off + i * 4 + 1, none⟩ = some (.int .i64 o.cost) ∧
        w.cell? ⟨b, off + i * 4 + 2, none⟩ = some (.slice S o.pre.length c) ∧ FactsAt w w.heap.size S o.pre ∧ w.cell? ⟨b, off + i * 4 + 3, none⟩ = some (.slice T o.effs.length d) ∧ EffsAt w w.heap.size T o.effs) fun i hil => by
      obtain ⟨es, D, hel, hc, hd, hfd⟩ := hi i hil
      match es, hel with
      | [c0, c1, c2, c3], _ =>
        obtain ⟨D0, r0, f0⟩ := open_fields Tryz.underlying63 (by kernel_rfl) hd hfd 0 _ c0 rfl rfl
        obtain ⟨D1, r1, _⟩ := open_fields Tryz.underlying63 (by kernel_rfl) hd hfd 1 _ c1 rfl rfl
        obtain ⟨D2, r2, f2⟩ := open_fields Tryz.underlying63 (by kernel_rfl) hd hfd 2 _ c2 rfl rfl
        obtain ⟨D3, r3, f3⟩ := open_fields Tryz.underlying63 (by kernel_rfl) hd hfd 3 _ c3 rfl rfl
        obtain ⟨s, hs, hsz⟩ := open_text r0 f0
        obtain ⟨v, hv, _⟩ := open_num r1
        obtain ⟨S, pre, c, hp, _, hF⟩ := open_FactsAt r2 f2
        obtain ⟨T, effs, d, he, _, hE⟩ := open_EffsAt r3 f3
        simp at hs hv hp he
        subst hs hv hp he
        exact ⟨⟨s, v, pre, effs⟩, S, c, T, d, by first | exact hc 0 (by omega) | simpa using hc 0 (by omega), by show s.size ≤ _; omega, by first | exact hc 1 (by omega) | simpa using hc 1 (by omega), by first | exact hc 2 (by omega) | simpa using hc 2 (by omega), hF, by first | exact hc 3 (by omega) | simpa using hc 3 (by omega), hE⟩
    subst hll
    exact ⟨_, l, c, rfl, h0, ⟨by omega, fun _ => ⟨b, off, rfl, hb, fun k hk => hlp k hk⟩⟩⟩
/-- A task that is read. -/
theorem open_TaskAt {cs : List Value} {d : DataW H} (hl : cs.length = 4) (h : Reads enc Tryz.prog w 26 cs d) (hf : Fits Tryz.prog 26 d) : ∃ t p, Value.agg cs.toArray = TaskV t p ∧ TaskAt w w.heap.size t p ∧ (p.ai = none → p.ci = 0) := by
 match cs, hl with
 | [c0, c1, c2, c3], _ =>
  obtain ⟨D0, r0, f0⟩ := open_fields Tryz.underlying26 (by kernel_rfl) h hf 0 _ c0 rfl rfl
  obtain ⟨D1, r1, f1⟩ := open_fields Tryz.underlying26 (by kernel_rfl) h hf 1 _ c1 rfl rfl
  obtain ⟨D2, r2, f2⟩ := open_fields Tryz.underlying26 (by kernel_rfl) h hf 2 _ c2 rfl rfl
  obtain ⟨D3, r3, f3⟩ := open_fields Tryz.underlying26 (by kernel_rfl) h hf 3 _ c3 rfl rfl
  obtain ⟨A0, l0, n0, e0, _, g0, _⟩ := open_IntsAt r0 f0
  obtain ⟨A1, l1, n1, e1, z1, g1, _⟩ := open_IntsAt r1 f1
  obtain ⟨A2, l2, n2, e2, _, g2⟩ := open_FactsAt r2 f2
  obtain ⟨A3, l3, n3, e3, _, g3⟩ := open_OpsAt r3 f3
  simp at e0 e1 e2 e3
  subst e0 e1 e2 e3
  exact ⟨⟨l0, l1, l2, l3⟩, ⟨A0, A1, A2, A3, n0, n1, n2, n3⟩, rfl, ⟨g0, g1, g2, g3⟩, z1⟩
end

section
variable {H : Type} {enc : TypeId × Value → H} {W : World} {base : Nat} {v : Value} {d : DataW H} {p : List MemPlace}
set_option maxRecDepth 100000 in
theorem arg_ints (hv : Value.okWide Tryz.prog W .any base 22 v) (h : DataW.Trod enc Tryz.prog W 0 (fun _ => true) true 22 v d p) (hf : Fits Tryz.prog 22 d) : ∃ A l c, v = .slice A l.length c ∧ (A = none → c = 0) ∧ IntsAt W W.heap.size A l ∧ InI l := by
 obtain ⟨a, n, c, rfl⟩ := okWide_slice Tryz.underlying22 hv
 obtain ⟨fuel, h⟩ := h
 obtain ⟨A, l, c', e, r⟩ := open_IntsAt (cs := [.slice a n c]) ⟨fuel, p, h⟩ hf
 simp only [List.cons.injEq, Value.slice.injEq, and_true] at e
 obtain ⟨rfl, rfl, rfl⟩ := e
 exact ⟨_, l, _, rfl, r⟩
set_option maxRecDepth 100000 in
theorem arg_facts (hv : Value.okWide Tryz.prog W .any base 23 v) (h : DataW.Trod enc Tryz.prog W 0 (fun _ => true) true 23 v d p) (hf : Fits Tryz.prog 23 d) : ∃ A l c, v = .slice A l.length c ∧ (A = none → c = 0) ∧ FactsAt W W.heap.size A l := by
 obtain ⟨a, n, c, rfl⟩ := okWide_slice Tryz.underlying23 hv
 obtain ⟨fuel, h⟩ := h
 obtain ⟨A, l, c', e, r⟩ := open_FactsAt (cs := [.slice a n c]) ⟨fuel, p, h⟩ hf
 simp only [List.cons.injEq, Value.slice.injEq, and_true] at e
 obtain ⟨rfl, rfl, rfl⟩ := e
 exact ⟨_, l, _, rfl, r⟩
set_option maxRecDepth 100000 in
theorem arg_task (hv : Value.okWide Tryz.prog W .any base 26 v) (h : DataW.Trod enc Tryz.prog W 0 (fun _ => true) true 26 v d p) (hf : Fits Tryz.prog 26 d) : ∃ t p, v = TaskV t p ∧ TaskAt W W.heap.size t p ∧ (p.ai = none → p.ci = 0) := by
 obtain ⟨cs, rfl, hsz⟩ := okWide_struct Tryz.underlying26 hv
 rw [show Tryz.prog.cellsOf 26 = 4 by kernel_rfl] at hsz
 obtain ⟨fuel, h⟩ := h
 obtain ⟨t, q, e, r⟩ := open_TaskAt (cs := cs.toList) (by simpa using hsz) ⟨fuel, p, h⟩ hf
 exact ⟨t, q, by simpa using e, r⟩

end

end Go.Proofs.YtlkebhiaimijiaaGreatDoor

/- Arguments opened: what the cells of a datum hold that is read. -/
import Derived.Test.YtbbgbogenkcooaaTaskD
import Derived.Test.YtbbgbogenkcooaaRow
import Derived.Deep.Slices
import Derived.Deep.Fields
import Derived.SizedLaws
import Derived.Lib.SmallJoins
namespace Go.Proofs.Ytbbgbogenkcooaa
set_option linter.unusedSimpArgs false
set_option linter.unusedVariables false
open Go.RowKit Go.ChangeShapes Go.WideShapes Go.Deep Go.Joins

theorem list_of {α : Type} (d : α) (n : Nat) (p : Nat → α → Prop) (h : ∀ i, i < n → ∃ x, p i x) : ∃ l : List α, l.length = n ∧ ∀ i, i < n → p i (l.getD i d) := by
  induction n with
  | zero => exact ⟨[], rfl, fun i hi => absurd hi (by omega)⟩
  | succ n ih =>
    obtain ⟨l, hl, hp⟩ := ih fun i hi => h i (by omega)
    obtain ⟨x, hx⟩ := h n (by omega)
    refine ⟨l ++ [x], by simp [hl], fun i hi => ?_⟩
    rcases Nat.lt_succ_iff_lt_or_eq.1 hi with h1 | rfl
    · have e : (l ++ [x]).getD i d = l.getD i d := by simp [List.getD, List.getElem?_append_left (show i < l.length by omega)]
      rw [e]; exact hp i h1
    · subst hl
      simpa [List.getD] using hx

section
variable {H : Type} {enc : TypeId × Value → H} {P : Program} {w : World}

/-- A datum within the reach; cells that read as a datum. -/
def Fits (P : Program) (t : TypeId) (d : DataW H) : Prop := ∀ n ∈ d.weights P t, n ≤ reachBytes
def Reads (enc : TypeId × Value → H) (P : Program) (w : World) (t : TypeId) (cs : List Value) (d : DataW H) : Prop := ∃ fuel ps, DataW.trod enc P w 0 (fun _ => true) true fuel t cs = some (d, ps)

theorem weights_all {e : TypeId} {x : DataW H} : ∀ {l : List (DataW H)}, x ∈ l → ∀ n ∈ x.weights P e, n ∈ DataW.weightsAll P e l
  | y :: r, h, n, hn => by
    simp only [DataW.weightsAll, List.mem_append]
    rcases List.mem_cons.1 h with rfl | h
    · exact .inl hn
    · exact .inr (weights_all h n hn)

theorem cell_lt {a : Addr} {v : Value} (h : w.cell? a = some v) : a.block < w.heap.size := by
  unfold World.cell? at h
  cases hh : w.heap[a.block]? with
  | none => rw [hh] at h; cases h
  | some o => exact (Array.getElem?_eq_some_iff.1 hh).1

theorem open_row {t e : TypeId} {n : Nat} {cs : List Value} {d : DataW H} (ht : P.underlying t = some (.slice e)) (hC : P.cellsOf e = n) (hn : 0 < n) (hby : 0 < P.bytesOf e) (h : Reads enc P w t cs d) (hf : Fits P t d) :
    ∃ A len c, cs = [.slice A len c] ∧ (A = none → c = 0) ∧ len ≤ 140737488351232 ∧ (0 < len → ∃ b off, A = some ⟨b, off, none⟩ ∧ b < w.heap.size ∧ ∀ i, i < len → ∃ (es : List Value) (D : DataW H), es.length = n ∧ (∀ j, j < n → w.cell? ⟨b, off + i * n + j, none⟩ = es[j]?) ∧ Reads enc P w e es D ∧ Fits P e D) := by
  obtain ⟨fuel, ps, h⟩ := h
  rcases open_slice ht h with ⟨rfl, _⟩ | ⟨a, len, cap, m, k, D, Pl, rfl, _, hlc, _, hm, hx, hi⟩
  · exact ⟨none, 0, 0, rfl, fun _ => rfl, by omega, fun h => absurd h (by omega)⟩
  · simp only [ite_true] at hm
    subst hm
    simp only [Prod.mk.injEq] at hx
    obtain ⟨rfl, rfl⟩ := hx
    have hw : (len + (m - len)) * P.bytesOf e ≤ reachBytes := hf _ (by simp [DataW.weights, ht])
    have hw2 : (len + (m - len)) * 1 ≤ (len + (m - len)) * P.bytesOf e := Nat.mul_le_mul (Nat.le_refl _) hby
    have hr : reachBytes = 140737488351232 := rfl
    refine ⟨some a, len, m, rfl, fun h => (by cases h), by omega, fun h0 => ?_⟩
    have hat : ∀ i, i < m → ∃ es, es.length = n ∧ (∀ j, j < n → w.cell? (a.add (i * n + j)) = es[j]?) ∧ Reads enc P w e es (D i) := fun i him => by
      obtain ⟨es, hc, hd⟩ := hi i him
      obtain ⟨_, hl, hce⟩ := World.cells?_some hc
      rw [hC] at hl hce
      refine ⟨es, hl, fun j hj => ?_, _, _, hd⟩
      rw [← add_add]; exact hce j hj
    obtain ⟨b, off, spot⟩ := a
    have hs : spot = none := by
      obtain ⟨es, hl, hc, _⟩ := hat 0 (by omega)
      have h1 := hc 0 hn
      rw [List.getElem?_eq_getElem (show 0 < es.length by omega)] at h1
      simpa [Addr.add] using World.cell?_spot h1
    subst hs
    have hb : b < w.heap.size := by
      obtain ⟨es, hl, hc, _⟩ := hat 0 (by omega)
      have h1 := hc 0 hn
      rw [List.getElem?_eq_getElem (show 0 < es.length by omega)] at h1
      simpa [Addr.add] using cell_lt h1
    refine ⟨b, off, rfl, hb, fun i hil => ?_⟩
    obtain ⟨es, hl, hc, hd⟩ := hat i (by omega)
    refine ⟨es, D i, hl, fun j hj => ?_, hd, fun y hy => hf y ?_⟩
    · rw [← hc j hj, add_plain, Nat.add_assoc]
    · simp only [DataW.weights, ht, List.mem_cons, List.mem_append]
      exact .inr (.inl (weights_all (List.mem_map_of_mem (List.mem_range.2 hil)) y hy))

theorem open_fields {t : TypeId} {fs : Array Field} {cs : List Value} {d : DataW H} (ht : P.underlying t = some (.struct fs)) (hone : oneCellFields P fs = true) (h : Reads enc P w t cs d) (hf : Fits P t d) :
    ∀ (j : Nat) (f : Field) (v : Value), fs[j]? = some f → cs[j]? = some v → ∃ D, Reads enc P w f.type [v] D ∧ Fits P f.type D := by
  obtain ⟨fuel, ps, h⟩ := h
  obtain ⟨ys, n', _, hy, hlen, hyl, hg⟩ := DataW.trod_struct ht h
  intro j f v hj hv
  simp only [Prod.mk.injEq] at hy
  obtain ⟨rfl, _⟩ := hy
  obtain ⟨ho, hk⟩ := hone_of hone j f hj
  have hjl : j < fs.size := (Array.getElem?_eq_some_iff.1 hj).1
  have hjc : j < cs.length := (List.getElem?_eq_some_iff.1 hv).1
  have h1 := hg j f hj
  rw [ho, hk] at h1
  have hone' : (cs.drop j).take 1 = [v] := by
    rw [List.drop_eq_getElem_cons hjc]
    rw [List.getElem?_eq_getElem hjc] at hv
    cases hv
    rfl
  rw [hone'] at h1
  have hys : ys[j]? = some (ys[j]'(by omega)) := List.getElem?_eq_getElem (by omega)
  refine ⟨(ys[j]'(by omega)).1, ⟨n', (ys[j]'(by omega)).2, h1.trans hys⟩, fun y hy => hf y ?_⟩
  simp only [DataW.weights, ht]
  exact DataW.weights_mem_each (show (fs.toList.map fun f : Field => f.type)[j]? = some f.type by rw [List.getElem?_map, Array.getElem?_toList, hj]; rfl) (by simp [hys]) y hy
end

/-- Every number is one of 64 bits. -/
def InI (l : List Int) : Prop := ∀ k, -9223372036854775808 ≤ nth l k ∧ nth l k ≤ 9223372036854775807

section
variable {H : Type} {enc : TypeId × Value → H} {w : World}
theorem open_num {cs : List Value} {d : DataW H} (h : Reads enc Try.prog w 3 cs d) : ∃ x, cs = [.int .i64 x] ∧ -9223372036854775808 ≤ x ∧ x ≤ 9223372036854775807 := by
  obtain ⟨_, _, h⟩ := h
  obtain ⟨x, rfl, _, hw⟩ := DataW.trod_int Try.underlying3 h
  exact ⟨x, rfl, bounds_i64 hw⟩
theorem open_text {cs : List Value} {d : DataW H} (h : Reads enc Try.prog w 9 cs d) (hf : Fits Try.prog 9 d) : ∃ s, cs = [.string s] ∧ s.size ≤ 140737488351232 := by
  obtain ⟨_, _, h⟩ := h
  obtain ⟨x, rfl, hx, hw⟩ := DataW.trod_string Try.underlying9 h
  simp only [Prod.mk.injEq] at hx
  obtain ⟨rfl, _⟩ := hx
  have := hf x.data.toList.length (by simp [DataW.weights])
  have hr : reachBytes = 140737488351232 := rfl
  exact ⟨x, rfl, by rw [hr] at this; simpa using this⟩
theorem open_IntsAt {cs : List Value} {d : DataW H} (h : Reads enc Try.prog w 22 cs d) (hf : Fits Try.prog 22 d) : ∃ A l c, cs = [.slice A l.length c] ∧ (A = none → c = 0) ∧ IntsAt w w.heap.size A l ∧ InI l := by
  obtain ⟨A, len, c, rfl, h0, hl, hr⟩ := open_row Try.underlying22 (show Try.prog.cellsOf 3 = 1 by kernel_rfl) (by decide) (show 0 < Try.prog.bytesOf 3 by exact of_decide_eq_true (by kernel_rfl)) h hf
  rcases Nat.eq_zero_or_pos len with rfl | hp
  · exact ⟨A, [], c, rfl, h0, ⟨by simp, fun h => absurd h (by simp)⟩, fun k => by simp [nth]⟩
  · obtain ⟨b, off, rfl, hb, hi⟩ := hr hp
    obtain ⟨l, hll, hlp⟩ := list_of (0 : Int) len (fun i x => w.cell? ⟨b, off + i, none⟩ = some (.int .i64 x) ∧ -9223372036854775808 ≤ x ∧ x ≤ 9223372036854775807) fun i hil => by
      obtain ⟨es, D, hel, hc, hd, _⟩ := hi i hil
      obtain ⟨x, rfl, hx⟩ := open_num hd
      exact ⟨x, by simpa using hc 0 (by omega), hx⟩
    subst hll
    refine ⟨_, l, c, rfl, h0, ⟨by omega, fun _ => ⟨b, off, rfl, hb, fun k hk => (hlp k hk).1⟩⟩, fun k => ?_⟩
    by_cases hk : k < l.length
    · exact (hlp k hk).2
    · simp [nth, List.getD, List.getElem?_eq_none (show l.length ≤ k by omega)]
theorem open_Fact {cs : List Value} {d : DataW H} (hl : cs.length = 2) (h : Reads enc Try.prog w 38 cs d) (hf : Fits Try.prog 38 d) : ∃ v x, cs = [.int .i64 v, .int .i64 x] := by
  match cs, hl with
  | [c0, c1], _ =>
    obtain ⟨D0, r0, _⟩ := open_fields Try.underlying38 (by kernel_rfl) h hf 0 _ c0 rfl rfl
    obtain ⟨D1, r1, _⟩ := open_fields Try.underlying38 (by kernel_rfl) h hf 1 _ c1 rfl rfl
    obtain ⟨v, hv, _⟩ := open_num r0
    obtain ⟨x, hx, _⟩ := open_num r1
    simp at hv hx
    subst hv hx
    exact ⟨v, x, rfl⟩
theorem open_FactsAt {cs : List Value} {d : DataW H} (h : Reads enc Try.prog w 23 cs d) (hf : Fits Try.prog 23 d) : ∃ A l c, cs = [.slice A l.length c] ∧ (A = none → c = 0) ∧ FactsAt w w.heap.size A l := by
  obtain ⟨A, len, c, rfl, h0, hl, hr⟩ := open_row Try.underlying23 (show Try.prog.cellsOf 38 = 2 by kernel_rfl) (by decide) (show 0 < Try.prog.bytesOf 38 by exact of_decide_eq_true (by kernel_rfl)) h hf
  rcases Nat.eq_zero_or_pos len with rfl | hp
  · exact ⟨A, [], c, rfl, h0, ⟨by simp, fun h => absurd h (by simp)⟩⟩
  · obtain ⟨b, off, rfl, hb, hi⟩ := hr hp
    obtain ⟨l, hll, hlp⟩ := list_of ((0, 0) : Int × Int) len (fun i x => w.cell? ⟨b, off + i * 2, none⟩ = some (.int .i64 x.1) ∧ w.cell? ⟨b, off + i * 2 + 1, none⟩ = some (.int .i64 x.2)) fun i hil => by
      obtain ⟨es, D, hel, hc, hd, hfd⟩ := hi i hil
      obtain ⟨v, x, rfl⟩ := open_Fact hel hd hfd
      exact ⟨(v, x), by simpa using hc 0 (by omega), by simpa using hc 1 (by omega)⟩
    subst hll
    exact ⟨_, l, c, rfl, h0, ⟨by omega, fun _ => ⟨b, off, rfl, hb, fun k hk => hlp k hk⟩⟩⟩
theorem open_EffsAt {cs : List Value} {d : DataW H} (h : Reads enc Try.prog w 61 cs d) (hf : Fits Try.prog 61 d) : ∃ A l c, cs = [.slice A l.length c] ∧ (A = none → c = 0) ∧ EffsAt w w.heap.size A l := by
  obtain ⟨A, len, c, rfl, h0, hl, hr⟩ := open_row Try.underlying61 (show Try.prog.cellsOf 82 = 3 by kernel_rfl) (by decide) (show 0 < Try.prog.bytesOf 82 by exact of_decide_eq_true (by kernel_rfl)) h hf
  rcases Nat.eq_zero_or_pos len with rfl | hp
  · exact ⟨A, [], c, rfl, h0, ⟨by simp, fun h => absurd h (by simp)⟩⟩
  · obtain ⟨b, off, rfl, hb, hi⟩ := hr hp
    obtain ⟨l, hll, hlp⟩ := list_of Eff.none len (fun i e => ∃ S c, w.cell? ⟨b, off + i * 3, none⟩ = some (.slice S e.whn.length c) ∧ FactsAt w w.heap.size S e.whn ∧ w.cell? ⟨b, off + i * 3 + 1, none⟩ = some (.int .i64 e.var) ∧ w.cell? ⟨b, off + i * 3 + 2, none⟩ = some (.int .i64 e.val)) fun i hil => by
      obtain ⟨es, D, hel, hc, hd, hfd⟩ := hi i hil
      match es, hel with
      | [c0, c1, c2], _ =>
        obtain ⟨D0, r0, f0⟩ := open_fields Try.underlying82 (by kernel_rfl) hd hfd 0 _ c0 rfl rfl
        obtain ⟨D1, r1, _⟩ := open_fields Try.underlying82 (by kernel_rfl) hd hfd 1 _ c1 rfl rfl
        obtain ⟨D2, r2, _⟩ := open_fields Try.underlying82 (by kernel_rfl) hd hfd 2 _ c2 rfl rfl
        obtain ⟨S, l, c, hw, _, hF⟩ := open_FactsAt r0 f0
        obtain ⟨v, hv, _⟩ := open_num r1
        obtain ⟨x, hx, _⟩ := open_num r2
        simp at hw hv hx
        subst hw hv hx
        exact ⟨⟨l, v, x⟩, S, c, by simpa using hc 0 (by omega), hF, by simpa using hc 1 (by omega), by simpa using hc 2 (by omega)⟩
    subst hll
    exact ⟨_, l, c, rfl, h0, ⟨by omega, fun _ => ⟨b, off, rfl, hb, fun k hk => hlp k hk⟩⟩⟩
theorem open_OpsAt {cs : List Value} {d : DataW H} (h : Reads enc Try.prog w 24 cs d) (hf : Fits Try.prog 24 d) : ∃ A l c, cs = [.slice A l.length c] ∧ (A = none → c = 0) ∧ OpsAt w w.heap.size A l := by
  obtain ⟨A, len, c, rfl, h0, hl, hr⟩ := open_row Try.underlying24 (show Try.prog.cellsOf 63 = 4 by kernel_rfl) (by decide) (show 0 < Try.prog.bytesOf 63 by exact of_decide_eq_true (by kernel_rfl)) h hf
  rcases Nat.eq_zero_or_pos len with rfl | hp
  · exact ⟨A, [], c, rfl, h0, ⟨by simp, fun h => absurd h (by simp)⟩⟩
  · obtain ⟨b, off, rfl, hb, hi⟩ := hr hp
    obtain ⟨l, hll, hlp⟩ := list_of Opr.none len (fun i o => ∃ S c T d, w.cell? ⟨b, off + i * 4, none⟩ = some (.string o.name) ∧ o.name.size ≤ 140737488355328 ∧ w.cell? ⟨b, off + i * 4 + 1, none⟩ = some (.int .i64 o.cost) ∧
        w.cell? ⟨b, off + i * 4 + 2, none⟩ = some (.slice S o.pre.length c) ∧ FactsAt w w.heap.size S o.pre ∧ w.cell? ⟨b, off + i * 4 + 3, none⟩ = some (.slice T o.effs.length d) ∧ EffsAt w w.heap.size T o.effs) fun i hil => by
      obtain ⟨es, D, hel, hc, hd, hfd⟩ := hi i hil
      match es, hel with
      | [c0, c1, c2, c3], _ =>
        obtain ⟨D0, r0, f0⟩ := open_fields Try.underlying63 (by kernel_rfl) hd hfd 0 _ c0 rfl rfl
        obtain ⟨D1, r1, _⟩ := open_fields Try.underlying63 (by kernel_rfl) hd hfd 1 _ c1 rfl rfl
        obtain ⟨D2, r2, f2⟩ := open_fields Try.underlying63 (by kernel_rfl) hd hfd 2 _ c2 rfl rfl
        obtain ⟨D3, r3, f3⟩ := open_fields Try.underlying63 (by kernel_rfl) hd hfd 3 _ c3 rfl rfl
        obtain ⟨s, hs, hsz⟩ := open_text r0 f0
        obtain ⟨v, hv, _⟩ := open_num r1
        obtain ⟨S, pre, c, hp, _, hF⟩ := open_FactsAt r2 f2
        obtain ⟨T, effs, d, he, _, hE⟩ := open_EffsAt r3 f3
        simp at hs hv hp he
        subst hs hv hp he
        exact ⟨⟨s, v, pre, effs⟩, S, c, T, d, by simpa using hc 0 (by omega), by show s.size ≤ _; omega, by simpa using hc 1 (by omega), by simpa using hc 2 (by omega), hF, by simpa using hc 3 (by omega), hE⟩
    subst hll
    exact ⟨_, l, c, rfl, h0, ⟨by omega, fun _ => ⟨b, off, rfl, hb, fun k hk => hlp k hk⟩⟩⟩
/-- A task that is read. -/
theorem open_TaskAt {cs : List Value} {d : DataW H} (hl : cs.length = 4) (h : Reads enc Try.prog w 26 cs d) (hf : Fits Try.prog 26 d) : ∃ t p, Value.agg cs.toArray = TaskV t p ∧ TaskAt w w.heap.size t p ∧ (p.ai = none → p.ci = 0) := by
  match cs, hl with
  | [c0, c1, c2, c3], _ =>
    obtain ⟨D0, r0, f0⟩ := open_fields Try.underlying26 (by kernel_rfl) h hf 0 _ c0 rfl rfl
    obtain ⟨D1, r1, f1⟩ := open_fields Try.underlying26 (by kernel_rfl) h hf 1 _ c1 rfl rfl
    obtain ⟨D2, r2, f2⟩ := open_fields Try.underlying26 (by kernel_rfl) h hf 2 _ c2 rfl rfl
    obtain ⟨D3, r3, f3⟩ := open_fields Try.underlying26 (by kernel_rfl) h hf 3 _ c3 rfl rfl
    obtain ⟨A0, l0, n0, e0, _, g0, _⟩ := open_IntsAt r0 f0
    obtain ⟨A1, l1, n1, e1, z1, g1, _⟩ := open_IntsAt r1 f1
    obtain ⟨A2, l2, n2, e2, _, g2⟩ := open_FactsAt r2 f2
    obtain ⟨A3, l3, n3, e3, _, g3⟩ := open_OpsAt r3 f3
    simp at e0 e1 e2 e3
    subst e0 e1 e2 e3
    exact ⟨⟨l0, l1, l2, l3⟩, ⟨A0, A1, A2, A3, n0, n1, n2, n3⟩, rfl, ⟨g0, g1, g2, g3⟩, z1⟩
end

theorem fits_at {H : Type} {P : Program} {ts : List TypeId} {ds : List (DataW H)} (h : (DataW.weightsEach P ts ds).all (· ≤ reachBytes) = true) {j : Nat} {t : TypeId} {d : DataW H} (ht : ts[j]? = some t) (hd : ds[j]? = some d) : Fits P t d := fun n hn => by
  simpa using List.all_eq_true.1 h _ (DataW.weights_mem_each ht hd n hn)

section
variable {H : Type} {enc : TypeId × Value → H} {W : World} {base : Nat} {v : Value} {d : DataW H} {p : List MemPlace}
set_option maxRecDepth 100000 in
theorem arg_ints (hv : Value.okWide Try.prog W .any base 22 v) (h : DataW.Trod enc Try.prog W 0 (fun _ => true) true 22 v d p) (hf : Fits Try.prog 22 d) : ∃ A l c, v = .slice A l.length c ∧ (A = none → c = 0) ∧ IntsAt W W.heap.size A l ∧ InI l := by
  obtain ⟨a, n, c, rfl⟩ := okWide_slice Try.underlying22 hv
  obtain ⟨fuel, h⟩ := h
  obtain ⟨A, l, c', e, r⟩ := open_IntsAt (cs := [.slice a n c]) ⟨fuel, p, h⟩ hf
  simp only [List.cons.injEq, Value.slice.injEq, and_true] at e
  obtain ⟨rfl, rfl, rfl⟩ := e
  exact ⟨_, l, _, rfl, r⟩
set_option maxRecDepth 100000 in
theorem arg_facts (hv : Value.okWide Try.prog W .any base 23 v) (h : DataW.Trod enc Try.prog W 0 (fun _ => true) true 23 v d p) (hf : Fits Try.prog 23 d) : ∃ A l c, v = .slice A l.length c ∧ (A = none → c = 0) ∧ FactsAt W W.heap.size A l := by
  obtain ⟨a, n, c, rfl⟩ := okWide_slice Try.underlying23 hv
  obtain ⟨fuel, h⟩ := h
  obtain ⟨A, l, c', e, r⟩ := open_FactsAt (cs := [.slice a n c]) ⟨fuel, p, h⟩ hf
  simp only [List.cons.injEq, Value.slice.injEq, and_true] at e
  obtain ⟨rfl, rfl, rfl⟩ := e
  exact ⟨_, l, _, rfl, r⟩
set_option maxRecDepth 100000 in
theorem arg_task (hv : Value.okWide Try.prog W .any base 26 v) (h : DataW.Trod enc Try.prog W 0 (fun _ => true) true 26 v d p) (hf : Fits Try.prog 26 d) : ∃ t p, v = TaskV t p ∧ TaskAt W W.heap.size t p ∧ (p.ai = none → p.ci = 0) := by
  obtain ⟨cs, rfl, hsz⟩ := okWide_struct Try.underlying26 hv
  rw [show Try.prog.cellsOf 26 = 4 by kernel_rfl] at hsz
  obtain ⟨fuel, h⟩ := h
  obtain ⟨t, q, e, r⟩ := open_TaskAt (cs := cs.toList) (by simpa using hsz) ⟨fuel, p, h⟩ hf
  exact ⟨t, q, by simpa using e, r⟩
set_option maxRecDepth 100000 in
theorem arg_int (hv : Value.okWide Try.prog W .any base 3 v) (h : DataW.Trod enc Try.prog W 0 (fun _ => true) true 3 v d p) : ∃ x : Int, v = .int .i64 x ∧ -9223372036854775808 ≤ x ∧ x ≤ 9223372036854775807 := by
  obtain ⟨x, rfl, _, _, wx⟩ := open_int Try.underlying3 hv h
  exact ⟨x, rfl, bounds_i64 wx⟩
end

end Go.Proofs.Ytbbgbogenkcooaa

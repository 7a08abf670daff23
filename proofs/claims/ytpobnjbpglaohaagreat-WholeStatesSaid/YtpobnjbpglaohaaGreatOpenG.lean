/- Arguments opened, the general part: what the cells of a datum hold that is read. -/
import Derived.Test.YtpobnjbpglaohaaGreatWgA
import Derived.Test.YtpobnjbpglaohaaGreatRow
import Derived.Deep.Slices
import Derived.Deep.Fields
import Derived.SizedLaws
import Derived.Lib.SmallJoins
namespace Go.Proofs.YtpobnjbpglaohaaGreat
set_option linter.unusedSimpArgs false
set_option linter.unusedVariables false
open Go.RowKit Go.ChangeShapes Go.WideShapes Go.Deep Go.Joins

theorem list_of {α : Type} (d : α) (n : Nat) (p : Nat → α → Prop) (h : ∀ i, i < n → ∃ x, p i x) : ∃ l : List α, l.length = n ∧ ∀ i, i < n → p i (l.getD i d) := by
  induction n with
  | zero => exact ⟨[], rfl, fun i hi => absurd hi (by omega)⟩
  | succ n ih =>
    obtain ⟨l, hl, hp⟩ := ih fun i hi => h i (by omega)
    obtain ⟨x, hx⟩ := h n (by omega)
    refine ⟨l ++ [x], by simp [hl], fun i hi => ?_⟩
    rcases Nat.lt_succ_iff_lt_or_eq.1 hi with h1 | rfl
    · have e : (l ++ [x]).getD i d = l.getD i d := by simp [List.getD, List.getElem?_append_left (show i < l.length by omega)]
      rw [e]; exact hp i h1
    · subst hl
      simpa [List.getD] using hx

section
variable {H : Type} {enc : TypeId × Value → H} {P : Program} {w : World}

/-- A datum within the reach; cells that read as a datum. -/
def Fits (P : Program) (t : TypeId) (d : DataW H) : Prop := ∀ n ∈ d.weights P t, n ≤ reachBytes
def Reads (enc : TypeId × Value → H) (P : Program) (w : World) (t : TypeId) (cs : List Value) (d : DataW H) : Prop := ∃ fuel ps, DataW.trod enc P w 0 (fun _ => true) true fuel t cs = some (d, ps)

theorem weights_all {e : TypeId} {x : DataW H} : ∀ {l : List (DataW H)}, x ∈ l → ∀ n ∈ x.weights P e, n ∈ DataW.weightsAll P e l
  | y :: r, h, n, hn => by
    simp only [DataW.weightsAll, List.mem_append]
    rcases List.mem_cons.1 h with rfl | h
    · exact .inl hn
    · exact .inr (weights_all h n hn)

theorem cell_lt {a : Addr} {v : Value} (h : w.cell? a = some v) : a.block < w.heap.size := by
  unfold World.cell? at h
  cases hh : w.heap[a.block]? with
  | none => rw [hh] at h; cases h
  | some o => exact (Array.getElem?_eq_some_iff.1 hh).1

theorem open_row {t e : TypeId} {n : Nat} {cs : List Value} {d : DataW H} (ht : P.underlying t = some (.slice e)) (hC : P.cellsOf e = n) (hn : 0 < n) (hby : 0 < P.bytesOf e) (h : Reads enc P w t cs d) (hf : Fits P t d) :
    ∃ A len c, cs = [.slice A len c] ∧ (A = none → c = 0) ∧ len ≤ 140737488351232 ∧ (0 < len → ∃ b off, A = some ⟨b, off, none⟩ ∧ b < w.heap.size ∧ ∀ i, i < len → ∃ (es : List Value) (D : DataW H), es.length = n ∧ (∀ j, j < n → w.cell? ⟨b, off + i * n + j, none⟩ = es[j]?) ∧ Reads enc P w e es D ∧ Fits P e D) := by
  obtain ⟨fuel, ps, h⟩ := h
  rcases open_slice ht h with ⟨rfl, _⟩ | ⟨a, len, cap, m, k, D, Pl, rfl, _, hlc, _, hm, hx, hi⟩
  · exact ⟨none, 0, 0, rfl, fun _ => rfl, by omega, fun h => absurd h (by omega)⟩
  · simp only [ite_true] at hm
    subst hm
    simp only [Prod.mk.injEq] at hx
    obtain ⟨rfl, rfl⟩ := hx
    have hw : (len + (m - len)) * P.bytesOf e ≤ reachBytes := hf _ (by simp [DataW.weights, ht])
    have hw2 : (len + (m - len)) * 1 ≤ (len + (m - len)) * P.bytesOf e := Nat.mul_le_mul (Nat.le_refl _) hby
    have hr : reachBytes = 140737488351232 := rfl
    refine ⟨some a, len, m, rfl, fun h => (by cases h), by omega, fun h0 => ?_⟩
    have hat : ∀ i, i < m → ∃ es, es.length = n ∧ (∀ j, j < n → w.cell? (a.add (i * n + j)) = es[j]?) ∧ Reads enc P w e es (D i) := fun i him => by
      obtain ⟨es, hc, hd⟩ := hi i him
      obtain ⟨_, hl, hce⟩ := World.cells?_some hc
      rw [hC] at hl hce
      refine ⟨es, hl, fun j hj => ?_, _, _, hd⟩
      rw [← add_add]; exact hce j hj
    obtain ⟨b, off, spot⟩ := a
    have hs : spot = none := by
      obtain ⟨es, hl, hc, _⟩ := hat 0 (by omega)
      have h1 := hc 0 hn
      rw [List.getElem?_eq_getElem (show 0 < es.length by omega)] at h1
      simpa [Addr.add] using World.cell?_spot h1
    subst hs
    have hb : b < w.heap.size := by
      obtain ⟨es, hl, hc, _⟩ := hat 0 (by omega)
      have h1 := hc 0 hn
      rw [List.getElem?_eq_getElem (show 0 < es.length by omega)] at h1
      simpa [Addr.add] using cell_lt h1
    refine ⟨b, off, rfl, hb, fun i hil => ?_⟩
    obtain ⟨es, hl, hc, hd⟩ := hat i (by omega)
    refine ⟨es, D i, hl, fun j hj => ?_, hd, fun y hy => hf y ?_⟩
    · rw [← hc j hj, add_plain, Nat.add_assoc]
    · simp only [DataW.weights, ht, List.mem_cons, List.mem_append]
      exact .inr (.inl (weights_all (List.mem_map_of_mem (List.mem_range.2 hil)) y hy))

theorem open_fields {t : TypeId} {fs : Array Field} {cs : List Value} {d : DataW H} (ht : P.underlying t = some (.struct fs)) (hone : oneCellFields P fs = true) (h : Reads enc P w t cs d) (hf : Fits P t d) :
    ∀ (j : Nat) (f : Field) (v : Value), fs[j]? = some f → cs[j]? = some v → ∃ D, Reads enc P w f.type [v] D ∧ Fits P f.type D := by
  obtain ⟨fuel, ps, h⟩ := h
  obtain ⟨ys, n', _, hy, hlen, hyl, hg⟩ := DataW.trod_struct ht h
  intro j f v hj hv
  simp only [Prod.mk.injEq] at hy
  obtain ⟨rfl, _⟩ := hy
  obtain ⟨ho, hk⟩ := hone_of hone j f hj
  have hjl : j < fs.size := (Array.getElem?_eq_some_iff.1 hj).1
  have hjc : j < cs.length := (List.getElem?_eq_some_iff.1 hv).1
  have h1 := hg j f hj
  rw [ho, hk] at h1
  have hone' : (cs.drop j).take 1 = [v] := by
    rw [List.drop_eq_getElem_cons hjc]
    rw [List.getElem?_eq_getElem hjc] at hv
    cases hv
    rfl
  rw [hone'] at h1
  have hys : ys[j]? = some (ys[j]'(by omega)) := List.getElem?_eq_getElem (by omega)
  refine ⟨(ys[j]'(by omega)).1, ⟨n', (ys[j]'(by omega)).2, h1.trans hys⟩, fun y hy => hf y ?_⟩
  simp only [DataW.weights, ht]
  exact DataW.weights_mem_each (show (fs.toList.map fun f : Field => f.type)[j]? = some f.type by rw [List.getElem?_map, Array.getElem?_toList, hj]; rfl) (by simp [hys]) y hy
end

theorem fits_at {H : Type} {P : Program} {ts : List TypeId} {ds : List (DataW H)} (h : (DataW.weightsEach P ts ds).all (· ≤ reachBytes) = true) {j : Nat} {t : TypeId} {d : DataW H} (ht : ts[j]? = some t) (hd : ds[j]? = some d) : Fits P t d := fun n hn => by
  simpa using List.all_eq_true.1 h _ (DataW.weights_mem_each ht hd n hn)

section
variable {H : Type} {enc : TypeId × Value → H} {w : World}
theorem open_num {cs : List Value} {d : DataW H} (h : Reads enc Tryz.prog w 3 cs d) : ∃ x, cs = [.int .i64 x] ∧ -9223372036854775808 ≤ x ∧ x ≤ 9223372036854775807 := by
  obtain ⟨_, _, h⟩ := h
  obtain ⟨x, rfl, _, hw⟩ := DataW.trod_int Tryz.underlying3 h
  exact ⟨x, rfl, bounds_i64 hw⟩
end

section
variable {H : Type} {enc : TypeId × Value → H} {W : World} {base : Nat} {v : Value} {d : DataW H} {p : List MemPlace}
set_option maxRecDepth 100000 in
theorem arg_int (hv : Value.okWide Tryz.prog W .any base 3 v) (h : DataW.Trod enc Tryz.prog W 0 (fun _ => true) true 3 v d p) : ∃ x : Int, v = .int .i64 x ∧ -9223372036854775808 ≤ x ∧ x ≤ 9223372036854775807 := by
  obtain ⟨x, rfl, _, _, wx⟩ := open_int Tryz.underlying3 hv h
  exact ⟨x, rfl, bounds_i64 wx⟩
end

end Go.Proofs.YtpobnjbpglaohaaGreat

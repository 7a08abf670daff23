/- Arguments opened: expressions (by recursion on the datum). -/
import Derived.Test.YtebgaicapjpohaaDoorSgA
import Derived.Test.YtebgaicapjpohaaDoorOpenT
namespace Go.Proofs.YtebgaicapjpohaaDoor
set_option linter.unusedSimpArgs false
set_option linter.unusedVariables false
open Go Go.RowKit Go.ChangeShapes Go.WideShapes Go.Deep Go.Joins
set_option linter.unusedVariables false

section
variable {H : Type} {enc : TypeId × Value → H} {P : Program} {w : World}
theorem open_rowD {t e : TypeId} {n : Nat} {cs : List Value} {d : DataW H} (ht : P.underlying t = some (.slice e)) (hC : P.cellsOf e = n) (hn : 0 < n) (hby : 0 < P.bytesOf e) (h : Reads enc P w t cs d) (hf : Fits P t d) :
    ∃ A len c, cs = [.slice A len c] ∧ (A = none → c = 0) ∧ len ≤ c ∧ len ≤ 140737488351232 ∧ (0 < len → ∃ b off, A = some ⟨b, off, none⟩ ∧ b < w.heap.size ∧ ∀ i, i < len → ∃ (es : List Value) (D : DataW H), es.length = n ∧ (∀ j, j < n → w.cell? ⟨b, off + i * n + j, none⟩ = es[j]?) ∧ Reads enc P w e es D ∧ Fits P e D ∧ SizeOf.sizeOf D < SizeOf.sizeOf d) := by
  obtain ⟨fuel, ps, h⟩ := h
  rcases open_slice ht h with ⟨rfl, _⟩ | ⟨a, len, cap, m, k, D, Pl, rfl, _, hlc, _, hm, hx, hi⟩
  · exact ⟨none, 0, 0, rfl, fun _ => rfl, Nat.le_refl _, by omega, fun h => absurd h (by omega)⟩
  · simp only [ite_true] at hm
    subst hm
    simp only [Prod.mk.injEq] at hx
    obtain ⟨rfl, rfl⟩ := hx
    have hw : (len + (m - len)) * P.bytesOf e ≤ reachBytes := hf _ (by simp [DataW.weights, ht])
    have hw2 : (len + (m - len)) * 1 ≤ (len + (m - len)) * P.bytesOf e := Nat.mul_le_mul (Nat.le_refl _) hby
    have hr : reachBytes = 140737488351232 := rfl
    refine ⟨some a, len, m, rfl, fun h => (by cases h), hlc, by omega, fun h0 => ?_⟩
    have hat : ∀ i, i < m → ∃ es, es.length = n ∧ (∀ j, j < n → w.cell? (a.add (i * n + j)) = es[j]?) ∧ Reads enc P w e es (D i) := fun i him => by
      obtain ⟨es, hc, hd⟩ := hi i him
      obtain ⟨_, hl, hce⟩ := World.cells?_some hc
      rw [hC] at hl hce
      refine ⟨es, hl, fun j hj => ?_, _, _, hd⟩
      rw [← add_add]; exact hce j hj
    obtain ⟨b, off, spot⟩ := a
    have hs : spot = none := by
      obtain ⟨es, hl, hc, _⟩ := hat 0 (by omega)
      have h1 := hc 0 hn
      rw [List.getElem?_eq_getElem (show 0 < es.length by omega)] at h1
      simpa [Addr.add] using World.cell?_spot h1
    subst hs
    have hb : b < w.heap.size := by
      obtain ⟨es, hl, hc, _⟩ := hat 0 (by omega)
      have h1 := hc 0 hn
      rw [List.getElem?_eq_getElem (show 0 < es.length by omega)] at h1
      simpa [Addr.add] using cell_lt h1
    refine ⟨b, off, rfl, hb, fun i hil => ?_⟩
    obtain ⟨es, hl, hc, hd⟩ := hat i (by omega)
    refine ⟨es, D i, hl, fun j hj => ?_, hd, fun y hy => hf y ?_, ?_⟩
    · rw [← hc j hj, add_plain, Nat.add_assoc]
    · simp only [DataW.weights, ht, List.mem_cons, List.mem_append]
      exact .inr (.inl (weights_all (List.mem_map_of_mem (List.mem_range.2 hil)) y hy))
    · have h1 := List.sizeOf_lt_of_mem (List.mem_map_of_mem (f := D) (List.mem_range.2 hil))
      rw [DataW.slice.sizeOf_spec]
      omega
theorem open_fieldsD {t : TypeId} {fs : Array Field} {cs : List Value} {d : DataW H} (ht : P.underlying t = some (.struct fs)) (hone : oneCellFields P fs = true) (h : Reads enc P w t cs d) (hf : Fits P t d) :
    ∀ (j : Nat) (f : Field) (v : Value), fs[j]? = some f → cs[j]? = some v → ∃ D, Reads enc P w f.type [v] D ∧ Fits P f.type D ∧ SizeOf.sizeOf D < SizeOf.sizeOf d := by
  obtain ⟨fuel, ps, h⟩ := h
  obtain ⟨ys, n', _, hy, hlen, hyl, hg⟩ := DataW.trod_struct ht h
  intro j f v hj hv
  simp only [Prod.mk.injEq] at hy
  obtain ⟨rfl, _⟩ := hy
  obtain ⟨ho, hk⟩ := hone_of hone j f hj
  have hjl : j < fs.size := (Array.getElem?_eq_some_iff.1 hj).1
  have hjc : j < cs.length := (List.getElem?_eq_some_iff.1 hv).1
  have h1 := hg j f hj
  rw [ho, hk] at h1
  have hone' : (cs.drop j).take 1 = [v] := by
    rw [List.drop_eq_getElem_cons hjc]
    rw [List.getElem?_eq_getElem hjc] at hv
    cases hv
    rfl
  rw [hone'] at h1
  have hys : ys[j]? = some (ys[j]'(by omega)) := List.getElem?_eq_getElem (by omega)
  refine ⟨(ys[j]'(by omega)).1, ⟨n', (ys[j]'(by omega)).2, h1.trans hys⟩, fun y hy => hf y ?_, ?_⟩
  · simp only [DataW.weights, ht]
    exact DataW.weights_mem_each (show (fs.toList.map fun f : Field => f.type)[j]? = some f.type by rw [List.getElem?_map, Array.getElem?_toList, hj]; rfl) (by simp [hys]) y hy
  · have h2 := List.sizeOf_lt_of_mem (List.mem_map_of_mem (f := fun x : DataW H × List MemPlace => x.1) (List.getElem_mem (l := ys) (n := j) (by omega)))
    rw [DataW.agg.sizeOf_spec]
    omega
end

section
variable {H : Type} {enc : TypeId × Value → H} {w : World}
theorem open_textB {cs : List Value} {d : DataW H} (h : Reads enc Tryd.prog w 9 cs d) : ∃ s, cs = [.string s] := by
  obtain ⟨_, _, h⟩ := h
  obtain ⟨x, rfl, hx, hw⟩ := DataW.trod_string Tryd.underlying9 h
  exact ⟨x, rfl⟩
theorem open_Sx : ∀ (N : Nat) (cs : List Value) (d : DataW H), SizeOf.sizeOf d < N → cs.length = 6 → Reads enc Tryd.prog w 34 cs d → Fits Tryd.prog 34 d → ∃ x, SxIs w (fun _ => False) cs x ∧ sxB x
  | 0, _, _, h, _, _, _ => absurd h (by omega)
  | N + 1, cs, d, hN, hl, h, hf => by
    match cs, hl with
    | [c0, c1, c2, c3, c4, c5], _ =>
      obtain ⟨D0, r0, _, _⟩ := open_fieldsD Tryd.underlying34 (by kernel_rfl) h hf 0 _ c0 rfl rfl
      obtain ⟨D1, r1, _, _⟩ := open_fieldsD Tryd.underlying34 (by kernel_rfl) h hf 1 _ c1 rfl rfl
      obtain ⟨D2, r2, _, _⟩ := open_fieldsD Tryd.underlying34 (by kernel_rfl) h hf 2 _ c2 rfl rfl
      obtain ⟨D3, r3, _, _⟩ := open_fieldsD Tryd.underlying34 (by kernel_rfl) h hf 3 _ c3 rfl rfl
      obtain ⟨D4, r4, _, _⟩ := open_fieldsD Tryd.underlying34 (by kernel_rfl) h hf 4 _ c4 rfl rfl
      obtain ⟨D5, r5, f5, s5⟩ := open_fieldsD Tryd.underlying34 (by kernel_rfl) h hf 5 _ c5 rfl rfl
      obtain ⟨k, e0, _⟩ := open_num r0
      obtain ⟨v, e1, _⟩ := open_num r1
      obtain ⟨l, e2, _⟩ := open_num r2
      obtain ⟨c, e3, _⟩ := open_num r3
      obtain ⟨s, e4⟩ := open_textB r4
      obtain ⟨A, len, cap, e5, hA, hlc, hlen, hr⟩ := open_rowD Tryd.underlying26 (show Tryd.prog.cellsOf 34 = 6 by kernel_rfl) (by decide) (show 0 < Tryd.prog.bytesOf 34 by exact of_decide_eq_true (by kernel_rfl)) r5 f5
      simp only [List.cons.injEq, and_true] at e0 e1 e2 e3 e4 e5
      subst e0 e1 e2 e3 e4 e5
      obtain ⟨t, ht⟩ : ∃ t : List UInt8, s = bs t := ⟨s.data.toList, (bs_of s).symm⟩
      subst ht
      rcases Nat.eq_zero_or_pos len with h0 | hp
      · subst h0
        exact ⟨.mk k v l c t [], by unfold SxIs; exact ⟨A, cap, rfl, hA, Nat.zero_le _, by unfold RowAt; trivial⟩, by unfold sxB sxBL; exact ⟨Nat.zero_le _, trivial⟩⟩
      · obtain ⟨b, off, rfl, hb, hi⟩ := hr hp
        obtain ⟨ks, hkl, hkp⟩ := list_of Sx.none len (fun i x => ∃ vs, SxIs w (fun _ => False) vs x ∧ sxB x ∧ ∀ j, j < 6 → w.cell? ⟨b, off + i * 6 + j, none⟩ = vs[j]?) fun i hil => by
          obtain ⟨es, D, hel, hc, hd, hfd, hsz⟩ := hi i hil
          obtain ⟨x, h1, h2⟩ := open_Sx N es D (by omega) hel hd hfd
          exact ⟨x, es, h1, h2, hc⟩
        subst hkl
        refine ⟨.mk k v l c t ks, ?_, ?_⟩
        · unfold SxIs
          refine ⟨_, cap, rfl, hA, hlc, RowAt.of_get _ _ fun i hil => ?_⟩
          obtain ⟨vs, h1, _, h3⟩ := hkp i hil
          exact ⟨b, off, vs, rfl, hb, id, h1, fun j hj => by rw [Nat.zero_add]; exact h3 j hj⟩
        · unfold sxB
          exact ⟨hlen, sxBL_of _ fun i hil => (hkp i hil).choose_spec.2.1⟩
end

section
variable {H : Type} {enc : TypeId × Value → H} {W : World} {base : Nat} {v : Value} {d : DataW H} {p : List MemPlace}
set_option maxRecDepth 100000 in
theorem arg_sx (hv : Value.okWide Tryd.prog W .any base 34 v) (h : DataW.Trod enc Tryd.prog W 0 (fun _ => true) true 34 v d p) (hf : Fits Tryd.prog 34 d) : ∃ x vs, v = .agg (Array.mk vs) ∧ SxIs W (fun _ => False) vs x ∧ sxB x := by
  obtain ⟨cs, rfl, hsz⟩ := okWide_struct Tryd.underlying34 hv
  rw [show Tryd.prog.cellsOf 34 = 6 by kernel_rfl] at hsz
  obtain ⟨fuel, h⟩ := h
  obtain ⟨x, h1, h2⟩ := open_Sx (w := W) (SizeOf.sizeOf d + 1) cs.toList d (by omega) (by simpa using hsz) ⟨fuel, p, h⟩ hf
  exact ⟨x, cs.toList, by simp, h1, h2⟩
end
end Go.Proofs.YtebgaicapjpohaaDoor

/- sexpr: one part more for the innermost open list. -/
import Derived.Test.YtebgaicapjpohaaDoorSeP
namespace Go.Proofs.YtebgaicapjpohaaDoor
set_option linter.unusedSimpArgs false
set_option linter.unusedVariables false
open Go Go.RowKit
set_option linter.unusedVariables false

section
variable {w : World}
theorem own_cell {B s n : Nat} {e : TypeId} {g cap : Nat} {xs : List Value} (h : w.ownsRow B e s (.slice (some ⟨g, 0, none⟩) n cap) n xs) {i : Nat} {u : Value} (hi : xs[i]? = some u) : w.cell? ⟨g, i, none⟩ = some u := by
  rcases h.2 with ⟨h0, _⟩ | ⟨b, cap', cur, h1, hb, hg, hnc, hcm, hcs, htk⟩
  · cases h0
  · injection h1 with h1 _ _
    injection h1 with h1
    injection h1 with h1 _ _
    subst h1
    rw [cell_of_row w g i cur e (0, 0) hg]
    rw [← htk, List.getElem?_take] at hi
    split at hi
    · simpa using hi
    · cases hi
theorem own_view {B s n : Nat} {e : TypeId} {v : Value} {xs : List Value} (h : w.ownsRow B e s v n xs) : (v = .slice none 0 0 ∧ n = 0) ∨ ∃ g cap, v = .slice (some ⟨g, 0, none⟩) n cap ∧ B ≤ g ∧ g < w.heap.size := by
  rcases h.2 with ⟨rfl, h0⟩ | ⟨b, cap, cur, rfl, hb, hg, _⟩
  · exact .inl ⟨rfl, h0⟩
  · exact .inr ⟨b, cap, rfl, hb, (Array.getElem?_eq_some_iff.1 hg).1⟩
end
theorem own_frozen {w : World} {B s n : Nat} {e : TypeId} {A : Option Addr} {c : Nat} {xs : List Value} (h : w.ownsRow B e s (.slice A n c) n xs) (hn : 0 < n) : ∃ g, A = some ⟨g, 0, none⟩ ∧ B ≤ g ∧ g < w.heap.size ∧ ∀ k, w.frozen? ⟨g, k, none⟩ = false := by
  rcases h.2 with ⟨h0, h1⟩ | ⟨g, cap, cur, h0, hb, hg, _⟩
  · omega
  · injection h0 with h0 _ _
    exact ⟨g, h0, hb, (Array.getElem?_eq_some_iff.1 hg).1, fun k => by simp [World.frozen?, hg]⟩
theorem qinfoSx : (Tryd.prog.info? 34).map (fun i => (i.zero, i.size, i.bytes)) = some (some (.agg #[.int .i64 0, .int .i64 0, .int .i64 0, .int .i64 0, .string ByteArray.empty, .slice none 0 0]), 6, 72) := by kernel_rfl
/-- Six cells of a block are written. -/
def set6 (w : World) (g i : Nat) (v0 v1 v2 v3 v4 v5 : Value) : World :=
  (((((w.setCell ⟨g, i, none⟩ v0).setCell ⟨g, i + 1, none⟩ v1).setCell ⟨g, i + 2, none⟩ v2).setCell ⟨g, i + 3, none⟩ v3).setCell ⟨g, i + 4, none⟩ v4).setCell ⟨g, i + 5, none⟩ v5
theorem own_set6 {w : World} {B n cap g i : Nat} {e : TypeId} {ks zs : List Value} {v0 v1 v2 v3 v4 v5 : Value} (h : w.ownsRow B e 6 (.slice (some ⟨g, 0, none⟩) n cap) n (ks ++ zs)) (hz : zs.length = 6) (hi : ks.length = i) :
    (set6 w g i v0 v1 v2 v3 v4 v5).ownsRow B e 6 (.slice (some ⟨g, 0, none⟩) n cap) n (ks ++ [v0, v1, v2, v3, v4, v5]) := by
  have h1 := own_setAt2 (i := i + 5) (own_setAt2 (i := i + 4) (own_setAt2 (i := i + 3) (own_setAt2 (i := i + 2) (own_setAt2 (i := i + 1) (own_setAt2 (i := i) h v0) v1) v2) v3) v4) v5
  match zs, hz with
  | [z0, z1, z2, z3, z4, z5], _ =>
    subst hi
    have e0 : (ks ++ [z0, z1, z2, z3, z4, z5]).set ks.length v0 = ks ++ [v0, z1, z2, z3, z4, z5] := by simp [List.set_append]
    have e1 : (ks ++ [v0, z1, z2, z3, z4, z5]).set (ks.length + 1) v1 = ks ++ [v0, v1, z2, z3, z4, z5] := by simp [List.set_append]
    have e2 : (ks ++ [v0, v1, z2, z3, z4, z5]).set (ks.length + 2) v2 = ks ++ [v0, v1, v2, z3, z4, z5] := by simp [List.set_append]
    have e3 : (ks ++ [v0, v1, v2, z3, z4, z5]).set (ks.length + 3) v3 = ks ++ [v0, v1, v2, v3, z4, z5] := by simp [List.set_append]
    have e4 : (ks ++ [v0, v1, v2, v3, z4, z5]).set (ks.length + 4) v4 = ks ++ [v0, v1, v2, v3, v4, z5] := by simp [List.set_append]
    have e5 : (ks ++ [v0, v1, v2, v3, v4, z5]).set (ks.length + 5) v5 = ks ++ [v0, v1, v2, v3, v4, v5] := by simp [List.set_append]
    rw [e0, e1, e2, e3, e4, e5] at h1
    exact h1
theorem own_oth6 {w : World} {B s n g i : Nat} {e : TypeId} {v : Value} {xs : List Value} {v0 v1 v2 v3 v4 v5 : Value} (h : w.ownsRow B e s v n xs) (hg : v.ownBlock ≠ some g) : (set6 w g i v0 v1 v2 v3 v4 v5).ownsRow B e s v n xs :=
  own_set' (own_set' (own_set' (own_set' (own_set' (own_set' h hg) hg) hg) hg) hg) hg
theorem Kb.set6 {bad : Nat → Prop} {w w' : World} {g i : Nat} {v0 v1 v2 v3 v4 v5 : Value} (h : Kb bad w w') (hp : bad g ∨ w.heap.size ≤ g) : Kb bad w (set6 w' g i v0 v1 v2 v3 v4 v5) :=
  (((((h.set (p := ⟨g, i, none⟩) hp v0).set (p := ⟨g, i + 1, none⟩) hp v1).set (p := ⟨g, i + 2, none⟩) hp v2).set (p := ⟨g, i + 3, none⟩) hp v3).set (p := ⟨g, i + 4, none⟩) hp v4).set (p := ⟨g, i + 5, none⟩) hp v5
theorem opCells_set {init : List Op1} {o : Op1} {y : Sx} {K' : Value} {ks' : List Value} (hh : y.kind = o.x.kind ∧ y.value = o.x.value ∧ y.line = o.x.line ∧ y.column = o.x.column ∧ y.text = o.x.text) :
    (opCells (init ++ [o])).set (init.length * 6 + 5) K' = opCells (init ++ [⟨y, K', ks'⟩]) := by
  rw [opCells_app, opCells_app, List.set_append_right _ _ (by rw [opCells_len]; omega), opCells_len, Nat.add_sub_cancel_left]
  obtain ⟨h1, h2, h3, h4, h5⟩ := hh
  unfold opCells Op1.cells
  simp only [List.map_cons, List.map_nil, List.flatten_cons, List.flatten_nil, List.append_nil, h1, h2, h3, h4, h5]
  rfl
theorem StkAt.add {B R gO n cO gK nk cK i : Nat} {w w9 : World} {init : List Op1} {o : Op1} {x : Sx} {zs : List Value} {v0 v1 v2 v3 v4 v5 : Value}
    (h : StkAt B R w (.slice (some ⟨gO, 0, none⟩) n cO) (init ++ [o])) (hR : R < w.heap.size) (hx : SxIs w (bdS R (.slice (some ⟨gO, 0, none⟩) n cO) (init ++ [o])) [v0, v1, v2, v3, v4, v5] x)
    (own9 : w9.ownsRow B 34 6 (.slice (some ⟨gK, 0, none⟩) nk cK) nk (o.ks ++ zs)) (hz : zs.length = 6) (hi : o.ks.length = i) (hnk : nk = o.x.kids.length + 1)
    (hg : w.grownBy w9 o.K.ownBlock) (hat : some gK = o.K.ownBlock ∨ gK = w.heap.size) :
    StkAt B R ((set6 w9 gK i v0 v1 v2 v3 v4 v5).setCell ⟨gO, init.length * 6 + 5, none⟩ (.slice (some ⟨gK, 0, none⟩) nk cK)) (.slice (some ⟨gO, 0, none⟩) n cO) (init ++ [⟨o.x.push x, .slice (some ⟨gK, 0, none⟩) nk cK, o.ks ++ [v0, v1, v2, v3, v4, v5]⟩]) ∧
    Kb (bdS R (.slice (some ⟨gO, 0, none⟩) n cO) (init ++ [o])) w ((set6 w9 gK i v0 v1 v2 v3 v4 v5).setCell ⟨gO, init.length * 6 + 5, none⟩ (.slice (some ⟨gK, 0, none⟩) nk cK)) := by
  obtain ⟨hpK, hOK, hkid, hkis⟩ := h.one
  have hOl := h.own.lt gO rfl
  have hne : gO ≠ gK := by
    rcases hat with e | e
    · rcases hOK with h1 | h1
      · cases h1
      · exact fun e2 => h1 (by rw [← e, ← e2]; rfl)
    · omega
  have hnR : gK ≠ R := by
    rcases hat with e | e
    · exact fun e2 => h.rK o (by simp) (by rw [← e, e2])
    · omega
  have hpne : ∀ p ∈ init, p.K.ownBlock ≠ some gK := by
    intro p hp e2
    rcases hat with e | e
    · rcases hpK p hp with h1 | h1
      · rw [h1] at e2; cases e2
      · exact h1 (by rw [e2, e])
    · have := (h.kid p (by simp [hp])).lt gK e2
      omega
  have hK1 : Kb (bdS R (.slice (some ⟨gO, 0, none⟩) n cO) (init ++ [o])) w w9 := (Kb.refl _ w).grown hg fun k hk => .inl (.inr (.inr ⟨o, by simp, hk⟩))
  have hK2 := hK1.set6 (g := gK) (i := i) (v0 := v0) (v1 := v1) (v2 := v2) (v3 := v3) (v4 := v4) (v5 := v5) (by
    rcases hat with e | e
    · exact .inl (.inr (.inr ⟨o, by simp, e.symm⟩))
    · exact .inr (by omega))
  have hK3 := hK2.set (p := ⟨gO, init.length * 6 + 5, none⟩) (.inl (.inr (.inl rfl))) (.slice (some ⟨gK, 0, none⟩) nk cK)
  have hm : Moves w ((set6 w9 gK i v0 v1 v2 v3 v4 v5).setCell ⟨gO, init.length * 6 + 5, none⟩ (.slice (some ⟨gK, 0, none⟩) nk cK)) (bdS R (.slice (some ⟨gO, 0, none⟩) n cO) (init ++ [o])) (bdS R (.slice (some ⟨gO, 0, none⟩) n cO) (init ++ [⟨o.x.push x, .slice (some ⟨gK, 0, none⟩) nk cK, o.ks ++ [v0, v1, v2, v3, v4, v5]⟩])) :=
    ⟨hK3.size, hK3.block, fun b hb hh => by
      rcases hh with hh | hh | ⟨p, hp, hh⟩
      · exact .inl hh
      · exact .inr (.inl hh)
      · rw [List.mem_append] at hp
        rcases hp with hp | hp
        · exact .inr (.inr ⟨p, by simp [hp], hh⟩)
        · rw [List.mem_singleton] at hp
          subst hp
          have e2 : gK = b := by simpa [Value.ownBlock] using hh
          rcases hat with e | e
          · exact .inr (.inr ⟨o, by simp, by rw [← e, e2]⟩)
          · omega⟩
  have hln : o.ks.length = o.x.kids.length * 6 := KidsIs.len _ _ hkis
  have hpush : (o.x.push x).kids = o.x.kids ++ [x] := rfl
  refine ⟨⟨?_, ?_, ?_, ?_, ?_, h.rO, ?_⟩, hK3⟩
  · have h1 := own_oth6 (i := i) (v0 := v0) (v1 := v1) (v2 := v2) (v3 := v3) (v4 := v4) (v5 := v5) (h.own.kept hg hOK) (g := gK) (by intro e; exact hne (by simpa [Value.ownBlock] using e))
    have e : n = (init ++ [o]).length := by
      obtain ⟨A, c, e⟩ := own_shape h.own
      injection e
    have h2 := own_setAt2 (i := init.length * 6 + 5) (n := (init ++ [o]).length) (cap := cO) (g := gO) (by rw [e] at h1; exact h1) (.slice (some ⟨gK, 0, none⟩) nk cK)
    rw [opCells_set (o := o) (y := o.x.push x) (K' := .slice (some ⟨gK, 0, none⟩) nk cK) (ks' := o.ks ++ [v0, v1, v2, v3, v4, v5]) ⟨rfl, rfl, rfl, rfl, rfl⟩] at h2
    have e2 : (init ++ [(⟨o.x.push x, .slice (some ⟨gK, 0, none⟩) nk cK, o.ks ++ [v0, v1, v2, v3, v4, v5]⟩ : Op1)]).length = (init ++ [o]).length := by simp
    rw [e2]
    rw [← e] at h2 ⊢
    exact h2
  · intro p hp
    rw [List.mem_append] at hp
    rcases hp with hp | hp
    · exact own_set' (own_oth6 ((h.kid p (by simp [hp])).kept hg (hpK p hp)) (hpne p hp)) (by
        intro e
        rcases h.aO p (by simp [hp]) with h1 | h1
        · cases h1
        · exact h1 (by rw [e]; rfl))
    · rw [List.mem_singleton] at hp
      subst hp
      show World.ownsRow _ B 34 6 _ (o.x.kids ++ [x]).length _
      rw [List.length_append, List.length_singleton, ← hnk]
      exact own_set' (own_set6 own9 hz hi) (by intro e; exact hne (by simpa [Value.ownBlock] using e.symm))
  · intro p hp
    rw [List.mem_append] at hp
    rcases hp with hp | hp
    · exact KidsIs.move hm _ _ (h.kis p (by simp [hp]))
    · rw [List.mem_singleton] at hp
      subst hp
      exact KidsIs.move hm _ _ (KidsIs.push hx _ _ hkis)
  · intro p hp
    rw [List.mem_append] at hp
    rcases hp with hp | hp
    · exact h.aO p (by simp [hp])
    · rw [List.mem_singleton] at hp
      subst hp
      exact .inr (by intro e; exact hne (by simpa [Value.ownBlock] using e))
  · have h1 := List.pairwise_append.1 h.aK
    refine List.pairwise_append.2 ⟨h1.1, by simp, fun a ha b hb => ?_⟩
    rw [List.mem_singleton] at hb
    subst hb
    exact .inr (hpne a ha)
  · intro p hp
    rw [List.mem_append] at hp
    rcases hp with hp | hp
    · exact h.rK p (by simp [hp])
    · rw [List.mem_singleton] at hp
      subst hp
      intro e
      exact hnR (by simpa [Value.ownBlock] using e)
end Go.Proofs.YtebgaicapjpohaaDoor

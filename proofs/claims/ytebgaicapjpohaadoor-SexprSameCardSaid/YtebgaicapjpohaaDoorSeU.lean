/- sexpr: one open list more; the innermost open list is closed. -/
import Derived.Test.YtebgaicapjpohaaDoorSeT
namespace Go.Proofs.YtebgaicapjpohaaDoor
set_option linter.unusedSimpArgs false
set_option linter.unusedVariables false
open Go Go.RowKit
set_option linter.unusedVariables false

section
variable {B R : Nat} {w w9 : World} {O : Value} {os : List Op1}
theorem own_len {s n : Nat} {e : TypeId} {A : Option Addr} {l c : Nat} {xs : List Value} (h : w.ownsRow B e s (.slice A l c) n xs) : l = n := by
  obtain ⟨A', c', e⟩ := own_shape h
  injection e
/-- A list is opened. -/
theorem StkAt.push {gO cO i n : Nat} {k v l c : Int} {t : List UInt8} {zs : List Value}
    (h : StkAt B R w O os) (hR : R < w.heap.size) (hn : os.length + 1 = n)
    (own9 : w9.ownsRow B 34 6 (.slice (some ⟨gO, 0, none⟩) n cO) n (opCells os ++ zs)) (hz : zs.length = 6) (hi : os.length * 6 = i)
    (hg : w.grownBy w9 O.ownBlock) (hat : some gO = O.ownBlock ∨ gO = w.heap.size) (u : Value) :
    StkAt B R ((set6 w9 gO i (.int .i64 k) (.int .i64 v) (.int .i64 l) (.int .i64 c) (.string (bs t)) (.slice none 0 0)).setCell ⟨R, 5, none⟩ u) (.slice (some ⟨gO, 0, none⟩) n cO) (os ++ [⟨.mk k v l c t [], .slice none 0 0, []⟩]) ∧
    Kb (bdS R O os) w ((set6 w9 gO i (.int .i64 k) (.int .i64 v) (.int .i64 l) (.int .i64 c) (.string (bs t)) (.slice none 0 0)).setCell ⟨R, 5, none⟩ u) := by
  have hnR : gO ≠ R := by
    rcases hat with e | e
    · exact fun e2 => h.rO (by rw [← e, e2])
    · omega
  have hKO : ∀ o ∈ os, o.K.ownBlock ≠ some gO := by
    intro o ho e2
    rcases hat with e | e
    · rcases h.aO o ho with h1 | h1
      · rw [h1] at e; cases e
      · exact h1 (by rw [e2, e])
    · have := (h.kid o ho).lt gO e2; omega
  have hK1 : Kb (bdS R O os) w w9 := (Kb.refl _ w).grown hg fun k hk => .inl (.inr (.inl hk))
  have hK2 := hK1.set6 (g := gO) (i := i) (v0 := .int .i64 k) (v1 := .int .i64 v) (v2 := .int .i64 l) (v3 := .int .i64 c) (v4 := .string (bs t)) (v5 := .slice none 0 0) (by
    rcases hat with e | e
    · exact .inl (.inr (.inl e.symm))
    · exact .inr (by omega))
  have hK3 := hK2.set (p := ⟨R, 5, none⟩) (.inl (.inl rfl)) u
  have hm : Moves w ((set6 w9 gO i (.int .i64 k) (.int .i64 v) (.int .i64 l) (.int .i64 c) (.string (bs t)) (.slice none 0 0)).setCell ⟨R, 5, none⟩ u) (bdS R O os) (bdS R (.slice (some ⟨gO, 0, none⟩) n cO) (os ++ [⟨.mk k v l c t [], .slice none 0 0, []⟩])) :=
    ⟨hK3.size, hK3.block, fun b hb hh => by
      rcases hh with hh | hh | ⟨p, hp, hh⟩
      · exact .inl hh
      · have e2 : gO = b := by simpa [Value.ownBlock] using hh
        rcases hat with e | e
        · exact .inr (.inl (by rw [← e, e2]))
        · omega
      · rw [List.mem_append] at hp
        rcases hp with hp | hp
        · exact .inr (.inr ⟨p, hp, hh⟩)
        · rw [List.mem_singleton] at hp
          subst hp
          cases hh⟩
  have hRne : ∀ g, g ≠ R → (Value.slice (some ⟨g, 0, none⟩) n cO).ownBlock ≠ some R := fun g hg e => hg (by simpa [Value.ownBlock] using e)
  refine ⟨⟨?_, ?_, ?_, ?_, ?_, hRne gO hnR, ?_⟩, hK3⟩
  · have h1 := own_set6 (v0 := .int .i64 k) (v1 := .int .i64 v) (v2 := .int .i64 l) (v3 := .int .i64 c) (v4 := .string (bs t)) (v5 := .slice none 0 0) own9 hz ((opCells_len os).trans hi)
    have h2 := own_set' (p := ⟨R, 5, none⟩) (u := u) h1 (hRne gO hnR)
    have e : (os ++ [(⟨.mk k v l c t [], .slice none 0 0, []⟩ : Op1)]).length = n := by simp [← hn]
    rw [e, opCells_app]
    exact h2
  · intro p hp
    rw [List.mem_append] at hp
    rcases hp with hp | hp
    · exact own_set' (own_oth6 ((h.kid p hp).kept hg (h.aO p hp).symm) (hKO p hp)) (h.rK p hp)
    · rw [List.mem_singleton] at hp
      subst hp
      exact ⟨rfl, .inl ⟨rfl, rfl⟩⟩
  · intro p hp
    rw [List.mem_append] at hp
    rcases hp with hp | hp
    · exact KidsIs.move hm _ _ (h.kis p hp)
    · rw [List.mem_singleton] at hp
      subst hp
      rfl
  · intro p hp
    rw [List.mem_append] at hp
    rcases hp with hp | hp
    · exact .inr (fun e => hKO p hp e.symm)
    · rw [List.mem_singleton] at hp
      subst hp
      exact .inr (by simp [Value.ownBlock])
  · refine List.pairwise_append.2 ⟨h.aK, by simp, fun a ha b hb => ?_⟩
    rw [List.mem_singleton] at hb
    subst hb
    exact Apt.symm (.inl rfl)
  · intro p hp
    rw [List.mem_append] at hp
    rcases hp with hp | hp
    · exact h.rK p hp
    · rw [List.mem_singleton] at hp
      subst hp
      simp [Value.ownBlock]
/-- The expression that an open list is. -/
theorem op_sx {bad : Nat → Prop} {o : Op1} (hk : w.ownsRow B 34 6 o.K o.x.kids.length o.ks) (hi : KidsIs w bad o.ks o.x.kids) (hb : ∀ g, o.K.ownBlock = some g → ¬ bad g) : SxIs w bad o.cells o.x := by
  obtain ⟨x, K, ks⟩ := o
  cases x with
  | mk k v l c t kids =>
    unfold SxIs
    dsimp only [Sx.kids] at *
    rcases hk.2 with ⟨e, h0⟩ | ⟨g, cap, cur, e, hB, hg, hnc, _⟩
    · subst e
      have : kids = [] := List.length_eq_zero_iff.1 h0
      subst this
      exact ⟨none, 0, rfl, fun _ => rfl, Nat.le_refl _, by unfold RowAt; trivial⟩
    · subst e
      exact ⟨some ⟨g, 0, none⟩, cap, rfl, (fun e => nomatch e), hnc, KidsIs.at_ (Array.getElem?_eq_some_iff.1 hg).1 (hb g rfl) _ _ 0 hi fun j hj => by
        rw [show 0 + 0 * 6 + j = j by omega, own_cell hk (List.getElem?_eq_getElem hj), List.getElem?_eq_getElem hj]⟩
/-- A shorter row. -/
theorem own_take {s n m g cap : Nat} {e : TypeId} {xs ys : List Value} (h : w.ownsRow B e s (.slice (some ⟨g, 0, none⟩) n cap) n (xs ++ ys)) (hm : m ≤ n) (hx : xs.length = m * s) : w.ownsRow B e s (.slice (some ⟨g, 0, none⟩) m cap) m xs := by
  rcases h.2 with ⟨h0, _⟩ | ⟨b, cap', cur, h1, hb, hg, hnc, hcm, hcs, htk⟩
  · cases h0
  · injection h1 with h1 _ h2
    injection h1 with h1
    injection h1 with h1 _ _
    subst h1 h2
    refine ⟨hx, .inr ⟨g, cap, cur, rfl, hb, hg, by omega, hcm, hcs, ?_⟩⟩
    have := congrArg (List.take (m * s)) htk
    rw [List.take_take, Nat.min_eq_left (Nat.mul_le_mul_right s hm), List.take_append_of_le_length (by omega)] at this
    exact this.trans (List.take_of_length_le (by omega))
/-- The innermost list is closed. -/
theorem StkAt.pop {gO cO n m : Nat} {init : List Op1} {o : Op1} (h : StkAt B R w (.slice (some ⟨gO, 0, none⟩) n cO) (init ++ [o])) (hm : init.length = m) :
    StkAt B R w (.slice (some ⟨gO, 0, none⟩) m cO) init ∧ SxIs w (bdS R (.slice (some ⟨gO, 0, none⟩) m cO) init) o.cells o.x := by
  have hb : ∀ g, bdS R (.slice (some ⟨gO, 0, none⟩) m cO) init g → bdS R (.slice (some ⟨gO, 0, none⟩) n cO) (init ++ [o]) g := by
    intro g hg
    rcases hg with hg | hg | ⟨p, hp, hg⟩
    · exact .inl hg
    · exact .inr (.inl hg)
    · exact .inr (.inr ⟨p, by simp [hp], hg⟩)
  have hmv : Moves w w (bdS R (.slice (some ⟨gO, 0, none⟩) n cO) (init ++ [o])) (bdS R (.slice (some ⟨gO, 0, none⟩) m cO) init) := Moves.mono fun b _ hh => hb b hh
  have hown := h.own
  have hln := own_len hown
  rw [opCells_app] at hown
  rw [show (init ++ [o]).length = m + 1 by simp [hm]] at hown hln
  subst hln
  refine ⟨⟨?_, fun p hp => h.kid p (by simp [hp]), fun p hp => KidsIs.move hmv _ _ (h.kis p (by simp [hp])), fun p hp => h.aO p (by simp [hp]), (List.pairwise_append.1 h.aK).1, h.rO, fun p hp => h.rK p (by simp [hp])⟩, ?_⟩
  · rw [hm]
    exact own_take hown (by omega) (by rw [opCells_len, hm])
  · refine op_sx (B := B) (h.kid o (by simp)) (KidsIs.move hmv _ _ (h.kis o (by simp))) fun g hg hh => ?_
    rcases hh with hh | hh | ⟨p, hp, hh⟩
    · exact h.rK o (by simp) (by rw [hg, hh])
    · rcases h.aO o (by simp) with h1 | h1
      · cases h1
      · exact h1 (by rw [hg]; exact hh)
    · have := (List.pairwise_append.1 h.aK).2.2 p hp o (by simp)
      rcases this with h1 | h1
      · rw [h1] at hh; cases hh
      · exact h1 (by rw [hg, hh])
end
end Go.Proofs.YtebgaicapjpohaaDoor

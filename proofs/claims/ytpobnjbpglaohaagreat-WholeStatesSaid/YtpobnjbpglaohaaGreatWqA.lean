/- Clones of numbers and of facts: contracts for the copies of a task. -/
import Derived.Test.YtpobnjbpglaohaaGreatWpR
namespace Go.Proofs.YtpobnjbpglaohaaGreat
set_option linter.unusedSimpArgs false
set_option linter.unusedVariables false
open Go Go.RowKit
set_option linter.unusedVariables false

/-- Numbers in a block that is not bad. -/
def IntK (w : World) (bad : Nat → Prop) (A : Option Addr) (l : List Int) : Prop :=
  l.length ≤ 140737488355328 ∧ (0 < l.length → ∃ b off, A = some ⟨b, off, none⟩ ∧ b < w.heap.size ∧ ¬ bad b ∧ ∀ k, k < l.length → w.cell? ⟨b, off + k, none⟩ = some (.int .i64 (nth l k)))
theorem IntK.move {w w' : World} {bad bad' : Nat → Prop} {A : Option Addr} {l : List Int} (h : IntK w bad A l) (m : Moves w w' bad bad') : IntK w' bad' A l :=
  ⟨h.1, fun hn => by
    obtain ⟨b, off, e, hb, hx, hc⟩ := h.2 hn
    exact ⟨b, off, e, Nat.lt_of_lt_of_le hb m.size, fun h2 => hx (m.bad b hb h2), fun k hk => (m.cell (p := ⟨b, _, none⟩) hb hx).trans (hc k hk)⟩⟩
theorem IntK.at_ {w : World} {bad : Nat → Prop} {A : Option Addr} {l : List Int} (h : IntK w bad A l) : IntsAt w w.heap.size A l :=
  ⟨h.1, fun hn => by
    obtain ⟨b, off, e, hb, hx, hc⟩ := h.2 hn
    exact ⟨b, off, e, hb, hc⟩⟩
theorem Moves.of_kb {w w' : World} {c bad bad' : Nat → Prop} (k : Kb c w w') (hc : ∀ b, b < w.heap.size → c b → bad b) (hb : ∀ b, b < w.heap.size → bad' b → bad b) : Moves w w' bad bad' :=
  ⟨k.size, fun b h1 h2 => k.block b h1 (fun h3 => h2 (hc b h1 h3)), hb⟩
theorem facts_rowx {w : World} {B : Nat} {A : Option Addr} {l : List (Int × Int)} (h : FactsAt w B A l) : RowX w B A l.length (fcl l) := fun h0 => by
  obtain ⟨b, off, e, hb, hc⟩ := h.2 h0
  refine ⟨b, off, e, hb, fun j u hj => ?_⟩
  have hl : j < l.length * 2 := by
    have h1 := (List.getElem?_eq_some_iff.1 hj).1
    have h2 : ∀ m : List (Int × Int), (fcl m).length = m.length * 2 := fun m => by
      induction m with
      | nil => rfl
      | cons f r ih => show (_ :: _ :: fcl r).length = _; simp only [List.length_cons, ih]; omega
    rw [h2] at h1
    exact h1
  obtain ⟨k, hk⟩ : ∃ k, j = k * 2 ∨ j = k * 2 + 1 := ⟨j / 2, by omega⟩
  have hk2 : k < l.length := by omega
  obtain ⟨g1, g2⟩ := fcl_get l k hk2
  obtain ⟨c1, c2⟩ := hc k hk2
  rcases hk with rfl | rfl
  · rw [g1] at hj; injection hj with hj; subst hj; exact c1
  · rw [g2] at hj; injection hj with hj; subst hj; rw [← Nat.add_assoc]; exact c2
theorem fcl_len (l : List (Int × Int)) : (fcl l).length = l.length * 2 := by
  induction l with
  | nil => rfl
  | cons f r ih => show (_ :: _ :: fcl r).length = _; simp only [List.length_cons, ih]; omega
theorem fcl_one (l : List (Int × Int)) : ∀ u ∈ fcl l, u.oneCell' = true := fun u hu => by
  unfold fcl at hu
  obtain ⟨f, _, hf⟩ := List.mem_flatMap.1 hu
  simp at hf
  rcases hf with rfl | rfl <;> rfl
theorem cloneF2 (l : List (Int × Int)) (A : Option Addr) (c : Nat) (w : World) (h : FactsAt w w.heap.size A l) (hl : l.length ≤ 100000) :
    Calls Tryz.prog 48 #[.slice A l.length c] w fun e w' => (∃ A' c', e = .returned (.slice A' l.length c') ∧ (∀ bad : Nat → Prop, (∀ g, w.heap.size ≤ g → g < w'.heap.size → ¬ bad g) → Fac w' bad A' l) ∧ w'.ownsRow w.heap.size 111 2 (.slice A' l.length c') l.length (fcl l)) ∧ Below w.heap.size w w' := by
  refine (cloneF_any (fcl l) l.length A c w (facts_rowx h) (fcl_len l) (fcl_one l) (by omega)).mono ?_
  rintro e w' ⟨⟨v, rfl, hv⟩, hb⟩
  obtain ⟨A', c', hs⟩ := own_shape hv
  subst hs
  refine ⟨⟨A', c', rfl, fun bad hbad => ?_, hv⟩, hb⟩
  obtain ⟨A2, c2, e2, _, hf⟩ := own_fac (bad := bad) hv rfl h.1 hbad
  injection e2 with e2 _ _
  subst e2
  exact hf
theorem own_intk {w : World} {B : Nat} {bad : Nat → Prop} {A : Option Addr} {c : Nat} {l : List Int} (h : w.ownsRow B 3 1 (.slice A l.length c) l.length (ic l)) (hl : l.length ≤ 140737488355328) (hb : ∀ g, B ≤ g → g < w.heap.size → ¬ bad g) : IntK w bad A l := by
  refine ⟨hl, fun h0 => ?_⟩
  obtain ⟨g, rfl, h1, h2, _⟩ := own_frozen' h h0
  exact ⟨g, 0, rfl, h2, hb g h1 h2, fun k hk => by rw [Nat.zero_add]; exact own_cell h (ic_get hk)⟩
theorem cloneI2 (l : List Int) (A : Option Addr) (c : Nat) (w : World) (h : IntsAt w w.heap.size A l) (hl : l.length ≤ 100000) :
    Calls Tryz.prog 40 #[.slice A l.length c] w fun e w' => (∃ A' c', e = .returned (.slice A' l.length c') ∧ (∀ bad : Nat → Prop, (∀ g, w.heap.size ≤ g → g < w'.heap.size → ¬ bad g) → IntK w' bad A' l) ∧ w'.ownsRow w.heap.size 3 1 (.slice A' l.length c') l.length (ic l)) ∧ Below w.heap.size w w' := by
  refine (clone_any l A c w h (by omega)).mono ?_
  rintro e w' ⟨⟨v, rfl, hv⟩, hb⟩
  obtain ⟨A', c', hs⟩ := own_shape hv
  subst hs
  exact ⟨⟨A', c', rfl, fun bad hbad => own_intk hv (by omega) hbad, hv⟩, hb⟩
/-- Rows of the call's own, by their types apart from a box. -/
theorem own_intk2 {w : World} {B : Nat} {bad : Nat → Prop} {A : Option Addr} {c : Nat} {l : List Int} (h : w.ownsRow B 3 1 (.slice A l.length c) l.length (ic l)) (hl : l.length ≤ 140737488355328) (hb : ∀ g, (Value.slice A l.length c).ownBlock = some g → ¬ bad g) : IntK w bad A l := by
  refine ⟨hl, fun h0 => ?_⟩
  obtain ⟨g, rfl, h1, h2, _⟩ := own_frozen' h h0
  exact ⟨g, 0, rfl, h2, hb g rfl, fun k hk => by rw [Nat.zero_add]; exact own_cell h (ic_get hk)⟩
theorem own_fac2 {w : World} {B : Nat} {bad : Nat → Prop} {A : Option Addr} {c : Nat} {l : List (Int × Int)} {T : TypeId} (h : w.ownsRow B T 2 (.slice A l.length c) l.length (fcl l)) (hl : l.length ≤ 140737488355328) (hb : ∀ g, (Value.slice A l.length c).ownBlock = some g → ¬ bad g) : Fac w bad A l := by
  refine ⟨hl, fun h0 => ?_⟩
  obtain ⟨g, rfl, h1, h2, _⟩ := own_frozen' h h0
  refine ⟨g, 0, rfl, h2, hb g rfl, fun k hk => ?_⟩
  obtain ⟨g1, g2⟩ := fcl_get l k hk
  exact ⟨by simpa using own_cell h g1, by simpa using own_cell h g2⟩
theorem own_ne_box {w : World} {B s n : Nat} {e T : TypeId} {v : Value} {xs : List Value} {X : Nat} {cs : Array Value} (h : w.ownsRow B e s v n xs) (hx : BxI w X T cs) (hne : e ≠ T) : ∀ g, v.ownBlock = some g → ¬ g = X := fun g hg e2 => by
  obtain ⟨cur, hc⟩ := own_blk h hg
  subst e2
  unfold BxI at hx
  rw [hc] at hx
  injection hx with hx
  injection hx with _ hx _
  exact hne hx
theorem kb_sets {X : Nat} : ∀ (vs : List Value) (o : Nat) (w : World), Kb (fun b => b = X) w (w.setCells X o vs)
  | [], _, w => Kb.refl _ w
  | v :: r, o, w => (kb_set (p := ⟨X, o, none⟩) v).trans (kb_sets r (o + 1) _)
theorem Kb.then_ {bad c : Nat → Prop} {W w w' : World} (h : Kb bad W w) (k : Kb c w w') (hc : ∀ b, b < W.heap.size → c b → bad b) : Kb bad W w' :=
  ⟨k.os.trans h.os, k.tape.trans h.tape, k.output.trans h.output, Nat.le_trans h.size k.size, fun b hb hn => (k.block b (Nat.lt_of_lt_of_le hb h.size) (fun e => hn (hc b hb e))).trans (h.block b hb hn)⟩
theorem below_then {c : Nat → Prop} {B : Nat} {W w w' : World} (h : Below B W w) (k : Kb c w w') (hc : ∀ b, b < B → ¬ c b) (hB : B ≤ w.heap.size) : Below B W w' :=
  ⟨k.os.trans h.os, k.tape.trans h.tape, k.output.trans h.output, Nat.le_trans h.size k.size, fun b hb => (k.block b (Nat.lt_of_lt_of_le hb hB) (hc b hb)).trans (h.block b hb)⟩
theorem take_opr {l : List Opr} {i : Nat} (h : i < l.length) : l.take (i + 1) = l.take i ++ [opr l i] := by
  rw [List.take_succ_eq_append_getElem h]; unfold opr; simp [List.getD, h]
theorem take_eff {l : List Eff} {i : Nat} (h : i < l.length) : l.take (i + 1) = l.take i ++ [eff l i] := by
  rw [List.take_succ_eq_append_getElem h]; unfold eff; simp [List.getD, h]
theorem qundOp : Tryz.prog.underlying 24 = some (.slice 62) := by kernel_rfl
theorem qinfOp : (Tryz.prog.info? 62).map (fun i => (i.zero, i.size, i.bytes)) = some (some (.agg #[.string ByteArray.empty, .int .i64 0, .slice none 0 0, .slice none 0 0]), 4, 72) := by kernel_rfl
theorem qundEf : Tryz.prog.underlying 60 = some (.slice 70) := by kernel_rfl
theorem qinfEf : (Tryz.prog.info? 70).map (fun i => (i.zero, i.size, i.bytes)) = some (some (.agg #[.slice none 0 0, .int .i64 0, .int .i64 0]), 3, 40) := by kernel_rfl
/-- The box of a copy, filled. -/
theorem copy_leaf {W0 Wb wy : World} {X c0 c1 c2 : Nat} {a0 a1 a2 : Option Addr} {t : Tsk} {old : Array Value} (hwy : wy = Wb.setCells X 0 [.slice a0 t.vars.length c0, .slice a1 t.init.length c1, .slice a2 t.goal.length c2, .slice none 0 0])
    (HX : BxI Wb X 26 old) (hold : old.size = 4) (hX : W0.heap.size ≤ X) (HB : Below W0.heap.size W0 Wb) (o0 : Wb.ownsRow W0.heap.size 3 1 (.slice a0 t.vars.length c0) t.vars.length (ic t.vars))
    (o1 : Wb.ownsRow W0.heap.size 3 1 (.slice a1 t.init.length c1) t.init.length (ic t.init)) (o2 : Wb.ownsRow W0.heap.size 111 2 (.slice a2 t.goal.length c2) t.goal.length (fcl t.goal)) (l0 : t.vars.length ≤ 1000) (l1 : t.init.length ≤ 1000) (l2 : t.goal.length ≤ 1000) :
    BxI wy X 26 #[.slice a0 t.vars.length c0, .slice a1 t.init.length c1, .slice a2 t.goal.length c2, .slice none 0 0] ∧ Below W0.heap.size W0 wy ∧ IntK wy (fun b => b = X ∨ b < W0.heap.size) a0 t.vars ∧ IntK wy (fun b => b = X ∨ b < W0.heap.size) a1 t.init ∧ Fac wy (fun b => b = X ∨ b < W0.heap.size) a2 t.goal := by
  have n0 := own_ne_box o0 HX (by decide)
  have n1 := own_ne_box o1 HX (by decide)
  have n2 := own_ne_box o2 HX (by decide)
  have K := kb_sets (X := X) [.slice a0 t.vars.length c0, .slice a1 t.init.length c1, .slice a2 t.goal.length c2, .slice none 0 0] 0 Wb
  rw [← hwy] at K
  refine ⟨by rw [hwy]; exact HX.setAll (by rw [hold]; rfl), by rw [hwy]; exact below_sets _ _ _ HB hX, own_intk2 (own_kb1 o0 K n0) (by omega) (fun g hg h => h.elim (n0 g hg) (fun h => by have := (o0.lt g hg).1; omega)), own_intk2 (own_kb1 o1 K n1) (by omega) (fun g hg h => h.elim (n1 g hg) (fun h => by have := (o1.lt g hg).1; omega)), own_fac2 (own_kb1 o2 K n2) (by omega) (fun g hg h => h.elim (n2 g hg) (fun h => by have := (o2.lt g hg).1; omega))⟩
end Go.Proofs.YtpobnjbpglaohaaGreat

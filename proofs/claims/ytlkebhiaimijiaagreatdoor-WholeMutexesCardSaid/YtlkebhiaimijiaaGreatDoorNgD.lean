/- Texts laid together: Reg, Kb, Stm. -/
import Derived.Test.YtlkebhiaimijiaaGreatDoorBase
import Derived.OrdersHeld
import Derived.Deep.RegionHeld
import Derived.Test.YtlkebhiaimijiaaGreatDoorNgC
import Derived.Test.YtlkebhiaimijiaaGreatDoorNgB
import Derived.Deep.MidRow
namespace Go.Proofs.YtlkebhiaimijiaaGreatDoor
set_option linter.unusedSimpArgs false
set_option linter.unusedVariables false
section
open Go Go.RowKit
set_option linter.unusedVariables false

section
variable {P : Program} {ops : Array Oper} {Q : Exit → Act → World → Prop} {md : Region.Mode} {S T : World → Prop} {st : Nat}
/-- Operation j waits for operation i. -/
def waits (md : Region.Mode) (ops : Array Oper) (j i : Nat) : Bool :=
 match ops[j]? with
 | some oj => oj.after.any fun e => Region.binds md e && e.on == i
 | none => false
inductive Path (md : Region.Mode) (ops : Array Oper) (i : Nat) : Nat → Prop
 | refl : Path md ops i i
 | step {j k : Nat} : Path md ops i j → waits md ops k j = true → Path md ops i k
/-- Which of the first n operations wait for i, through others. -/
def pathL (md : Region.Mode) (ops : Array Oper) (i : Nat) : Nat → List Bool
  | 0 => []
  | n + 1 => pathL md ops i n ++ [(n == i) || (match ops[n]? with
      | some oj => oj.after.any fun e => Region.binds md e && (pathL md ops i n).getD e.on false
      | none => false)]
theorem pathL_len (i : Nat) : ∀ n, (pathL md ops i n).length = n
 | 0 => rfl
 | n + 1 => by show (pathL md ops i n ++ [_]).length = _; simp [pathL_len i n]
theorem pathL_path (i : Nat) : ∀ (n j : Nat), (pathL md ops i n).getD j false = true → Path md ops i j
 | 0, j, h => by simp [pathL] at h
 | n + 1, j, h => by
  have hl := pathL_len (md := md) (ops := ops) i n
  unfold pathL at h
  simp only [List.getD] at h
  by_cases hj : j < n
  ·rw [List.getElem?_append_left (by omega)] at h
   exact pathL_path i n j h
  ·rw [List.getElem?_append_right (by omega), hl] at h
   by_cases e : j = n
   ·subst e
    rw [Nat.sub_self] at h
    simp only [List.getElem?_cons_zero, Option.getD_some, Bool.or_eq_true, beq_iff_eq] at h
    rcases h with h | h
    ·subst h; exact .refl
    ·split at h
     ·rename_i oj ho
      obtain ⟨e, he, h2⟩ := Array.any_eq_true'.1 h
      simp only [Bool.and_eq_true] at h2
      have hp := pathL_path i j e.on h2.2
      refine .step hp ?_
      unfold waits
      rw [ho]
      exact Array.any_eq_true'.2 ⟨e, he, by simp [h2.1]⟩
     ·cases h
   ·have : 0 < j - n := by omega
    obtain ⟨d, hd⟩ : ∃ d, j - n = d + 1 := ⟨j - n - 1, by omega⟩
    rw [hd] at h
    simp at h
def pathB (md : Region.Mode) (ops : Array Oper) (i s : Nat) : Bool := (pathL md ops i (s + 1)).getD s false
theorem path_of {i s : Nat} (h : pathB md ops i s = true) : Path md ops i s := pathL_path i _ s h
/-- What has come up is closed under waiting. -/
def Cl (md : Region.Mode) (ops : Array Oper) (listed : Array Bool) : Prop :=
 ∀ j oj, ops[j]? = some oj → listed.getD j false = true → ∀ e ∈ oj.after, Region.binds md e = true → listed.getD e.on false = true
theorem cl_set {listed : Array Bool} {i : Nat} (h : Cl md ops listed) (hi : i ∈ Region.ready md ops listed) : Cl md ops (listed.setIfInBounds i true) := by
 obtain ⟨_, oi, hoi, hall⟩ := mem_ready.1 hi
 intro j oj hj hl e he hb
 by_cases hij : i = j
 ·subst hij
  have : oj = oi := Option.some.inj (hj.symm.trans hoi)
  subst this
  exact getD_set_true (hall e he hb)
 ·rw [getD_set_ne false hij] at hl
  exact getD_set_true (h j oj hj hl e he hb)
theorem cl_start (n : Nat) : Cl md ops (Array.replicate n false) := fun j oj hj hl e he hb => by
 exfalso
 rcases Nat.lt_or_ge j n with h | h
 ·simp [h] at hl
 ·simp [h] at hl
theorem cl_path {listed : Array Bool} {i s : Nat} (h : Cl md ops listed) (hp : Path md ops i s) (hs : listed.getD s false = true) : listed.getD i false = true := by
 induction hp with
 | refl => exact hs
 | @step j k hp hw ih =>
  unfold waits at hw
  split at hw
  ·rename_i oj ho
   obtain ⟨e, he, h2⟩ := Array.any_eq_true'.1 hw
   simp only [Bool.and_eq_true, beq_iff_eq] at h2
   have := h k oj ho hs e he h2.1
   rw [h2.2] at this
   exact ih this
  ·cases hw
def Gd (st : Nat) (S : World → Prop) (listed : Array Bool) (w : World) : Prop := listed.getD st false = false → S w
def wpAnyG (P : Program) (md : Region.Mode) (ops : Array Oper) (Q : Exit → Act → World → Prop) (st : Nat) (S : World → Prop) : Nat → Array Bool → Act → World → Prop
 | 0, listed, a, w => Region.ready md ops listed = [] ∧ Q .normal a w
 | fuel + 1, listed, a, w =>
  (Region.ready md ops listed = [] → Q .normal a w) ∧
  ∀ i ∈ Region.ready md ops listed, wpOp P ops Q i (fun a' w' => Gd st S (listed.setIfInBounds i true) w' ∧ wpAnyG P md ops Q st S fuel (listed.setIfInBounds i true) a' w') a w
theorem wpAny_of_G : ∀ (fuel : Nat) (listed : Array Bool) (a : Act) (w : World), wpAnyG P md ops Q st S fuel listed a w → wpAny P md ops Q fuel listed a w
 | 0, _, _, _, h => h
 | fuel + 1, _, _, _, h => ⟨h.1, fun i hi => wpOp_mono (fun a' w' h' => wpAny_of_G fuel _ a' w' h'.2) (h.2 i hi)⟩
theorem getD_un {listed : Array Bool} {i j : Nat} (h : (listed.setIfInBounds i true).getD j false = false) : listed.getD j false = false := by
 cases e : listed.getD j false with
 | false => rfl
 | true => rw [getD_set_true e] at h; cases h
theorem getD_TF {listed : Array Bool} {i : Nat} (h : listed.getD i true = false) : listed.getD i false = false := by
 rcases Nat.lt_or_ge i listed.size with h' | h'
 ·simp [h'] at h ⊢; exact h
 ·simp [Array.getElem?_eq_none h'] at h

theorem wpAnyG_first {i : Nat} {oi : Oper} {v : Value} (hi : ops[i]? = some oi) (hsel : ∀ (j : Nat) (o : Oper) cs b, ops[j]? = some o → o.op ≠ .select cs b)
    (hQ : ∀ c a w, Q (.panic c) (a.put oi.dst v) w → Q (.panic c) a w) (hne : i ≠ st)
    (hT : ∀ (listed : Array Bool) (w : World), Cl md ops listed → listed.getD i true = false → Gd st S listed w → T w) :
    ∀ (fuel : Nat) (listed : Array Bool) (a : Act) (w : World), Cl md ops listed →
      (∀ j oj, ops[j]? = some oj → j ≠ i → listed.getD j true = false → (∀ e ∈ oj.after, Region.binds md e = true → e.on ≠ i) → oi.apart ops oj = true) →
      i ∈ Region.ready md ops listed → YieldsIf P ops T oi v a → Gd st S listed w →
      wpAnyG P md ops Q st S fuel (listed.setIfInBounds i true) (a.put oi.dst v) w → wpAnyG P md ops Q st S (fuel + 1) listed a w := by
  intro fuel
  induction fuel with
  | zero =>
    intro listed a w hcl _ hr hy hS H
    refine ⟨fun h => (by rw [h] at hr; cases hr), fun j hj => ?_⟩
    by_cases hji : j = i
    · subst hji
      exact hy.wpOp hi (hT _ _ hcl (mem_ready.1 hr).1 hS) ⟨fun h => hS (getD_un h), H⟩
    · have := ready_mono hj hji
      rw [H.1] at this
      cases this
  | succ fuel ih =>
    intro listed a w hcl hfree hr hy hS H
    refine ⟨fun h => (by rw [h] at hr; cases hr), fun j hj => ?_⟩
    by_cases hji : j = i
    · subst hji
      exact hy.wpOp hi (hT _ _ hcl (mem_ready.1 hr).1 hS) ⟨fun h => hS (getD_un h), H⟩
    · have h1 := H.2 j (ready_mono hj hji)
      obtain ⟨hjun, oj, hoj, hall⟩ := mem_ready.1 hj
      have hnot : ∀ e ∈ oj.after, Region.binds md e = true → e.on ≠ i := fun e he hb heq => by
        have h1 := hall e he hb
        have h0 := (mem_ready.1 hr).1
        rw [heq] at h1
        rcases Nat.lt_or_ge i listed.size with h' | h'
        · simp [h'] at h0 h1; rw [h0] at h1; cases h1
        · simp [Array.getElem?_eq_none h'] at h1
      have h2 := wpOp_putIf hoj (hfree j oj hoj hji hjun hnot) (fun cs b => hsel i oi cs b hi) (fun cs b => hsel j oj cs b hoj) hQ hy h1
      have hfree' : ∀ k ok, ops[k]? = some ok → k ≠ i → (listed.setIfInBounds j true).getD k true = false →
          (∀ e ∈ ok.after, Region.binds md e = true → e.on ≠ i) → oi.apart ops ok = true := fun k ok hk hki hun hno => by
        refine hfree k ok hk hki ?_ hno
        by_cases hjk : j = k
        · subst hjk; exact hjun
        · rw [getD_set_ne true hjk] at hun; exact hun
      refine wpOp_mono (fun a' w' h3 => ?_) h2
      obtain ⟨g1, g2, g3⟩ := h3
      have hG : Gd st S (listed.setIfInBounds j true) w' := fun h => g2 (by
        rw [← Array.setIfInBounds_comm _ _ hji, getD_set_ne false hne]
        exact h)
      refine ⟨hG, ih (listed.setIfInBounds j true) a' w' (cl_set hcl hj) hfree' (ready_mono hr (Ne.symm hji)) g1 hG ?_⟩
      rw [Array.setIfInBounds_comm _ _ hji]
      exact g3

theorem wpAnyG_take {i : Nat} {oi : Oper} {v : Value} {fuel : Nat} {listed : Array Bool} {a : Act} {w : World} (hi : ops[i]? = some oi) (hcl : Cl md ops listed ∧ Gd st S listed w)
  (hs : Region.noSelect ops = true) (hf : Region.free md ops listed i = true) (hr : (Region.ready md ops listed).contains i = true) (hne : (i == st) = false) (hp : pathB md ops i st = true)
  (hQ : ∀ c a w, Q (.panic c) (a.put oi.dst v) w → Q (.panic c) a w) (hy : YieldsIf P ops S oi v a)
  (h : Cl md ops (listed.setIfInBounds i true) ∧ Gd st S (listed.setIfInBounds i true) w → wpAnyG P md ops Q st S fuel (listed.setIfInBounds i true) (a.put oi.dst v) w) : wpAnyG P md ops Q st S (fuel + 1) listed a w :=
 have hr' : i ∈ Region.ready md ops listed := by simpa using hr
 wpAnyG_first hi (Region.noSelect_spec hs) hQ (by simpa using hne) (T := S) (fun l w' hc hl hg => hg (by
  cases e : l.getD st false with
  | false => rfl
  | true => have h3 := cl_path hc (path_of hp) e; rw [getD_TF hl] at h3; cases h3)) fuel listed a w hcl.1 (Region.free_spec hi hf) hr' hy hcl.2 (h ⟨cl_set hcl.1 hr', fun h => hcl.2 (getD_un h)⟩)
theorem wpAnyG_any {i : Nat} {oi : Oper} {v : Value} {fuel : Nat} {listed : Array Bool} {a : Act} {w : World} (hi : ops[i]? = some oi) (hcl : Cl md ops listed ∧ Gd st S listed w)
  (hs : Region.noSelect ops = true) (hf : Region.free md ops listed i = true) (hr : (Region.ready md ops listed).contains i = true) (hne : (i == st) = false)
  (hQ : ∀ c a w, Q (.panic c) (a.put oi.dst v) w → Q (.panic c) a w) (hy : YieldsIf P ops (fun _ => True) oi v a)
  (h : Cl md ops (listed.setIfInBounds i true) ∧ Gd st S (listed.setIfInBounds i true) w → wpAnyG P md ops Q st S fuel (listed.setIfInBounds i true) (a.put oi.dst v) w) : wpAnyG P md ops Q st S (fuel + 1) listed a w :=
 have hr' : i ∈ Region.ready md ops listed := by simpa using hr
 wpAnyG_first hi (Region.noSelect_spec hs) hQ (by simpa using hne) (T := fun _ => True) (fun _ _ _ _ _ => trivial) fuel listed a w hcl.1 (Region.free_spec hi hf) hr' hy hcl.2 (h ⟨cl_set hcl.1 hr', fun h => hcl.2 (getD_un h)⟩)
/-- Each of the operations rs comes up next. -/
def AllG (P : Program) (md : Region.Mode) (ops : Array Oper) (Q : Exit → Act → World → Prop) (st : Nat) (S : World → Prop) (fuel : Nat) (listed : Array Bool) (a : Act) (w : World) (rs : List Nat) : Prop :=
 ∀ i ∈ rs, i ∈ Region.ready md ops listed → wpOp P ops Q i (fun a' w' => Gd st S (listed.setIfInBounds i true) w' ∧ wpAnyG P md ops Q st S fuel (listed.setIfInBounds i true) a' w') a w
theorem AllG.nil {fuel : Nat} {listed : Array Bool} {a : Act} {w : World} : AllG P md ops Q st S fuel listed a w [] := fun _ h => by cases h
theorem AllG.cons {fuel : Nat} {listed : Array Bool} {a : Act} {w : World} {i : Nat} {o : Oper} {rs : List Nat} (ho : ops[i]? = some o) (hcl : Cl md ops listed ∧ Gd st S listed w)
  (h : ∀ K' : Act → World → Prop, Shut (∀ a w, ((i == st || listed.getD st false) = true ∨ S w) → (Cl md ops (listed.setIfInBounds i true) ∧ Gd st S (listed.setIfInBounds i true) w → wpAnyG P md ops Q st S fuel (listed.setIfInBounds i true) a w) → K' a w) → if Region.wanted o (yielded ops a.tmps) = true then Oper.wp P o a w K' Q else K' (a.put o.dst undef) w)
  (hs : AllG P md ops Q st S fuel listed a w rs) : AllG P md ops Q st S fuel listed a w (i :: rs) := fun j hj hjr => by
 rcases List.mem_cons.1 hj with rfl | hj
 ·refine wpOp_step ho (fun K' hK => h K' (fun a w hS hW => ?_))
  have hG : Gd st S (listed.setIfInBounds j true) w := fun h0 => by
   rcases hS with hS | hS
   ·exfalso
    simp only [Bool.or_eq_true, beq_iff_eq] at hS
    rcases hS with hS | hS
    ·subst hS
     have hlt : j < listed.size := by
      rcases Nat.lt_or_ge j listed.size with h' | h'
      ·exact h'
      ·have := (mem_ready.1 hjr).1; simp [Array.getElem?_eq_none h'] at this
     simp [hlt] at h0
    ·rw [getD_set_true hS] at h0; cases h0
   ·exact hS
  exact hK a w ⟨hG, hW ⟨cl_set hcl.1 hjr, hG⟩⟩
 ·exact hs j hj hjr
theorem wpAnyG_ready {rs : List Nat} {fuel : Nat} {listed : Array Bool} {a : Act} {w : World} (hr : Region.ready md ops listed = rs) (hne : rs ≠ [])
  (h : AllG P md ops Q st S fuel listed a w rs) : wpAnyG P md ops Q st S (fuel + 1) listed a w :=
 ⟨fun h0 => absurd (hr ▸ h0) hne, fun i hi => h i (hr ▸ hi) hi⟩
theorem wpAnyG_done {listed : Array Bool} {a : Act} {w : World} (hr : Region.ready md ops listed = []) (h : Q .normal a w) :
  ∀ fuel, wpAnyG P md ops Q st S fuel listed a w
 | 0 => ⟨hr, h⟩
 | _ + 1 => ⟨fun _ => h, by rw [hr]; simp⟩
/-- The beginning. -/
theorem wp_region_G {id : Nat} {a : Act} {w : World} (st : Nat) (S : World → Prop) (hm : P.follows .mixedOrders = true) (hS : S w.drew)
  (h : Cl .any ops (Array.replicate ops.size false) ∧ Gd st S (Array.replicate ops.size false) w.drew → wpAnyG P .any ops Q st S ops.size (Array.replicate ops.size false) a w.drew) : (Code.region id ops true).wp P Q a w :=
 wp_region_any hm (wpAny_of_G _ _ _ _ (h ⟨cl_start _, fun _ => hS⟩))
end
end

section
open Go Go.RowKit
set_option linter.unusedVariables false

structure Kb (bad : Nat → Prop) (w w' : World) : Prop where
 os : w'.os = w.os
 tape : w'.tape = w.tape
 output : w'.output = w.output
 size : w.heap.size ≤ w'.heap.size
 block : ∀ k, k < w.heap.size → ¬ bad k → w'.heap[k]? = w.heap[k]?
section
variable {bad : Nat → Prop} {w w' w'' : World}
theorem Kb.refl (bad : Nat → Prop) (w : World) : Kb bad w w := ⟨rfl, rfl, rfl, Nat.le_refl _, fun _ _ _ => rfl⟩
theorem Kb.trans (h : Kb bad w w') (k : Kb bad w' w'') : Kb bad w w'' :=
 ⟨k.os.trans h.os, k.tape.trans h.tape, k.output.trans h.output, Nat.le_trans h.size k.size, fun i hi ho => (k.block i (Nat.lt_of_lt_of_le hi h.size) ho).trans (h.block i hi ho)⟩
theorem Kb.of_below (h : Below w.heap.size w w') : Kb bad w w' := ⟨h.os, h.tape, h.output, h.size, fun k hk _ => h.block k hk⟩
theorem Kb.low (h : Kb bad w w') (hb : Below w.heap.size w' w'') : Kb bad w w'' :=
 ⟨hb.os.trans h.os, hb.tape.trans h.tape, hb.output.trans h.output, Nat.le_trans h.size hb.size, fun k hk ho => (hb.block k hk).trans (h.block k hk ho)⟩
theorem Kb.up (h : Kb bad w w') (hb : Below w'.heap.size w' w'') : Kb bad w w'' := h.trans (Kb.of_below hb)
theorem Kb.alloc (h : Kb bad w w') (o : Obj) : Kb bad w (w'.alloc o) := h.up ((Below.refl _ _).alloc (Nat.le_refl _) _)
theorem Kb.drew (h : Kb bad w w') : Kb bad w w'.drew := h.up (Below.refl _ _).drew
theorem Kb.set (h : Kb bad w w') {p : Addr} (hp : bad p.block ∨ w.heap.size ≤ p.block) (u : Value) : Kb bad w (w'.setCell p u) :=
 ⟨h.os, h.tape, h.output, by simpa [World.setCell] using h.size, fun k hk ho => (Below.heap_setCell _ _ _ _ (fun e => by
  rcases hp with hp | hp
  ·exact ho (by rw [e]; exact hp)
  ·omega)).trans (h.block k hk ho)⟩
theorem Kb.grown {row : Option Nat} (h : Kb bad w w') (hg : w'.grownBy w'' row) (hr : ∀ k, row = some k → bad k ∨ w.heap.size ≤ k) : Kb bad w w'' :=
 ⟨hg.os.trans h.os, hg.tape.trans h.tape, hg.output.trans h.output, Nat.le_trans h.size hg.size, fun k hk ho => (hg.block k (Nat.lt_of_lt_of_le hk h.size) fun e => by
  rcases hr k e.symm with h1 | h1
  ·exact ho h1
  ·omega).trans (h.block k hk ho)⟩
theorem Kb.cell (h : Kb bad w w') {p : Addr} (hp : p.block < w.heap.size) (ho : ¬ bad p.block) : w'.cell? p = w.cell? p := World.cell?_of_block (w := w) (h.block _ hp ho)
theorem Kb.frozen (h : Kb bad w w') {p : Addr} (hp : p.block < w.heap.size) (ho : ¬ bad p.block) : w'.frozen? p = w.frozen? p := World.frozen?_of_block (w := w) (h.block _ hp ho)
theorem Kb.below {B : Nat} (h : Kb bad w w') (hB : ∀ b, b < B → ¬ bad b) (hw : B ≤ w.heap.size) : Below B w w' := ⟨h.os, h.tape, h.output, h.size, fun k hk => h.block k (by omega) (hB k hk)⟩
theorem Kb.moves (h : Kb bad w w') : Moves w w' bad bad := ⟨h.size, h.block, fun _ _ h => h⟩
theorem Kb.row (h : Kb bad w w') {b n : Nat} {t : TypeId} {f : Nat → Value} (hr : w.rowIs b t n f) (ho : ¬ bad b) : w'.rowIs b t n f := hr.of_block (h.block b hr.lt ho)
theorem own_kb {B s n : Nat} {e : TypeId} {v : Value} {xs : List Value} (h : w.ownsRow B e s v n xs) (k : Kb bad w w') (hb : ∀ g, v.ownBlock = some g → ¬ bad g) : w'.ownsRow B e s v n xs := by
 rcases h.2 with ⟨rfl, h0⟩ | ⟨g, cap, cur, rfl, hB, hg, hh⟩
 ·exact ⟨h.1, .inl ⟨rfl, h0⟩⟩
 ·exact ⟨h.1, .inr ⟨g, cap, cur, rfl, hB, (k.block g (Array.getElem?_eq_some_iff.1 hg).1 (hb g rfl)).trans hg, hh⟩⟩
end

/-- A box of four cells. -/
structure Box4 (w : World) (b : Nat) (v0 v1 v2 v3 : Value) : Prop where
 lt : b < w.heap.size
 c0 : w.cell? ⟨b, 0, none⟩ = some v0
 c1 : w.cell? ⟨b, 1, none⟩ = some v1
 c2 : w.cell? ⟨b, 2, none⟩ = some v2
 c3 : w.cell? ⟨b, 3, none⟩ = some v3
 fz : ∀ k, w.frozen? ⟨b, k, none⟩ = false
section
variable {bad : Nat → Prop} {w w' : World} {b : Nat} {v0 v1 v2 v3 : Value}
theorem Box4.of_block (h : Box4 w b v0 v1 v2 v3) (hs : w.heap.size ≤ w'.heap.size) (hb : w'.heap[b]? = w.heap[b]?) : Box4 w' b v0 v1 v2 v3 :=
 have e : ∀ k, w'.cell? ⟨b, k, none⟩ = w.cell? ⟨b, k, none⟩ := fun k => World.cell?_of_block (w := w) (a := ⟨b, k, none⟩) hb
 ⟨Nat.lt_of_lt_of_le h.lt hs, (e 0).trans h.c0, (e 1).trans h.c1, (e 2).trans h.c2, (e 3).trans h.c3, fun k => (World.frozen?_of_block (w := w) (a := ⟨b, k, none⟩) hb).trans (h.fz k)⟩
theorem Box4.kb (h : Box4 w b v0 v1 v2 v3) (k : Kb bad w w') (hb : ¬ bad b) : Box4 w' b v0 v1 v2 v3 := h.of_block k.size (k.block b h.lt hb)
theorem Box4.up (h : Box4 w b v0 v1 v2 v3) (k : Below w.heap.size w w') : Box4 w' b v0 v1 v2 v3 := h.of_block k.size (k.block b h.lt)
theorem Box4.low {B : Nat} (h : Box4 w b v0 v1 v2 v3) (k : Below B w w') (hb : b < B) : Box4 w' b v0 v1 v2 v3 := h.of_block k.size (k.block b hb)
theorem Box4.alloc (h : Box4 w b v0 v1 v2 v3) (o : Obj) : Box4 (w.alloc o) b v0 v1 v2 v3 := h.up ((Below.refl _ _).alloc (Nat.le_refl _) _)
theorem Box4.drew (h : Box4 w b v0 v1 v2 v3) : Box4 w.drew b v0 v1 v2 v3 := h.up (Below.refl _ _).drew
theorem Box4.new (w : World) (T : TypeId) (v0 v1 v2 v3 : Value) : Box4 (w.alloc (.cells #[v0, v1, v2, v3] T)) w.heap.size v0 v1 v2 v3 :=
 ⟨by simp, by simp, by simp, by simp, by simp, fun k => by simp⟩
theorem Box4.far (h : Box4 w b v0 v1 v2 v3) {p : Addr} (u : Value) (hp : b ≠ p.block) : Box4 (w.setCell p u) b v0 v1 v2 v3 := h.of_block (by simp [World.setCell]) (Below.heap_setCell _ _ _ _ hp)
theorem set_oth (w : World) (b i j : Nat) (u : Value) (h : i ≠ j) : (w.setCell ⟨b, i, none⟩ u).cell? ⟨b, j, none⟩ = w.cell? ⟨b, j, none⟩ := World.cell?_setCell_other _ _ _ _ (by simp [h])
theorem set_frz (w : World) (b i k : Nat) (u : Value) : (w.setCell ⟨b, i, none⟩ u).frozen? ⟨b, k, none⟩ = w.frozen? ⟨b, k, none⟩ := by simp
theorem Box4.set0 (h : Box4 w b v0 v1 v2 v3) (u : Value) : Box4 (w.setCell ⟨b, 0, none⟩ u) b u v1 v2 v3 :=
 ⟨by simpa [World.setCell] using h.lt, World.cell?_setCell_same' _ _ _ (by rw [h.c0]; rfl), (set_oth _ _ _ _ _ (by decide)).trans h.c1, (set_oth _ _ _ _ _ (by decide)).trans h.c2, (set_oth _ _ _ _ _ (by decide)).trans h.c3, fun k => (set_frz _ _ _ _ _).trans (h.fz k)⟩
theorem Box4.set1 (h : Box4 w b v0 v1 v2 v3) (u : Value) : Box4 (w.setCell ⟨b, 1, none⟩ u) b v0 u v2 v3 :=
 ⟨by simpa [World.setCell] using h.lt, (set_oth _ _ _ _ _ (by decide)).trans h.c0, World.cell?_setCell_same' _ _ _ (by rw [h.c1]; rfl), (set_oth _ _ _ _ _ (by decide)).trans h.c2, (set_oth _ _ _ _ _ (by decide)).trans h.c3, fun k => (set_frz _ _ _ _ _).trans (h.fz k)⟩
theorem Box4.set2 (h : Box4 w b v0 v1 v2 v3) (u : Value) : Box4 (w.setCell ⟨b, 2, none⟩ u) b v0 v1 u v3 :=
 ⟨by simpa [World.setCell] using h.lt, (set_oth _ _ _ _ _ (by decide)).trans h.c0, (set_oth _ _ _ _ _ (by decide)).trans h.c1, World.cell?_setCell_same' _ _ _ (by rw [h.c2]; rfl), (set_oth _ _ _ _ _ (by decide)).trans h.c3, fun k => (set_frz _ _ _ _ _).trans (h.fz k)⟩
theorem Box4.set3 (h : Box4 w b v0 v1 v2 v3) (u : Value) : Box4 (w.setCell ⟨b, 3, none⟩ u) b v0 v1 v2 u :=
 ⟨by simpa [World.setCell] using h.lt, (set_oth _ _ _ _ _ (by decide)).trans h.c0, (set_oth _ _ _ _ _ (by decide)).trans h.c1, (set_oth _ _ _ _ _ (by decide)).trans h.c2, World.cell?_setCell_same' _ _ _ (by rw [h.c3]; rfl), fun k => (set_frz _ _ _ _ _).trans (h.fz k)⟩
end

/-- Different blocks of growing rows. -/
def Apt (a b : Value) : Prop := a.ownBlock = none ∨ a.ownBlock ≠ b.ownBlock
theorem Apt.symm {a b : Value} (h : Apt a b) : Apt b a := by
  unfold Apt at *
  cases e : b.ownBlock with
  | none => exact .inl rfl
  | some k => rcases h with h | h
              · rw [h]; exact .inr (by simp)
              · rw [e] at h; exact .inr (Ne.symm h)
theorem Apt.new {w : World} {B s n : Nat} {e : TypeId} {a b b' : Value} {xs : List Value} (h : Apt a b) (ho : w.ownsRow B e s a n xs) (hat : b'.ownBlock = b.ownBlock ∨ b'.ownBlock = some w.heap.size) : Apt a b' := by
 unfold Apt at *
 rcases hat with hat | hat
 ·rw [hat]; exact h
 ·rw [hat]
  cases e : a.ownBlock with
  | none => exact .inl rfl
  | some k => have := (ho.lt k e).2; exact .inr (fun hh => by cases hh; omega)
/-- Three rows of numbers of the call's own, apart; what lay below base at world W is as it was. -/
structure Rows3 (W : World) (base : Nat) (w : World) (L : Value) (ls : List Int) (V : Value) (vs : List Int) (I : Value) (is : List Int) : Prop where
 bel : Below base W w
 sz : base ≤ w.heap.size
 sW : W.heap.size ≤ w.heap.size
 oL : w.ownsRow base 3 1 L ls.length (ic ls)
 oV : w.ownsRow base 3 1 V vs.length (ic vs)
 oI : w.ownsRow base 3 1 I is.length (ic is)
 aLV : Apt L V
 aLI : Apt L I
 aVI : Apt V I
section
variable {W w w' : World} {base : Nat} {L V I L' V' I' : Value} {ls vs is : List Int} {x : Int}
theorem ic_push (l : List Int) (x : Int) : ic l ++ [.int .i64 x] = ic (l ++ [x]) := by unfold ic; rw [List.map_append]; rfl
theorem Rows3.begin (h : Rows3 W base w L ls V vs I is) : Rows3 w base w L ls V vs I is := { h with bel := Below.refl _ _, sW := Nat.le_refl _ }
theorem Rows3.alloc (h : Rows3 W base w L ls V vs I is) (o : Obj) : Rows3 W base (w.alloc o) L ls V vs I is :=
 { bel := h.bel.alloc h.sz _, sz := by have := h.sz; simp; omega, sW := by have := h.sW; simp; omega, oL := h.oL.alloc _, oV := h.oV.alloc _, oI := h.oI.alloc _, aLV := h.aLV, aLI := h.aLI, aVI := h.aVI }
theorem Rows3.drew (h : Rows3 W base w L ls V vs I is) : Rows3 W base w.drew L ls V vs I is := { h with bel := h.bel.drew, oL := h.oL, oV := h.oV, oI := h.oI }
theorem Rows3.set (h : Rows3 W base w L ls V vs I is) {p : Addr} (u : Value) (hp : p.block < base) : Rows3 (w.setCell p u) base (w.setCell p u) L ls V vs I is :=
 { bel := Below.refl _ _, sz := by have := h.sz; simpa [World.setCell] using this, sW := Nat.le_refl _, oL := own_set h.oL hp, oV := own_set h.oV hp, oI := own_set h.oI hp, aLV := h.aLV, aLI := h.aLI, aVI := h.aVI }
theorem Rows3.pushL (h : Rows3 W base w L ls V vs I is) (hg : w.grownBy w' L.ownBlock) (ho : w'.ownsRow base 3 1 L' (ls.length + 1) (ic ls ++ [.int .i64 x])) (hat : L'.ownBlock = L.ownBlock ∨ L'.ownBlock = some w.heap.size) : Rows3 W base w' L' (ls ++ [x]) V vs I is :=
 { bel := h.bel.grown hg h.sz fun k hk => (h.oL.lt k hk).1, sz := Nat.le_trans h.sz hg.size, sW := Nat.le_trans h.sW hg.size, oL := by rw [List.length_append, ← ic_push]; exact ho, oV := h.oV.kept hg h.aLV.symm, oI := h.oI.kept hg h.aLI.symm, aLV := (h.aLV.symm.new h.oV hat).symm, aLI := (h.aLI.symm.new h.oI hat).symm, aVI := h.aVI }
theorem Rows3.pushV (h : Rows3 W base w L ls V vs I is) (hg : w.grownBy w' V.ownBlock) (ho : w'.ownsRow base 3 1 V' (vs.length + 1) (ic vs ++ [.int .i64 x])) (hat : V'.ownBlock = V.ownBlock ∨ V'.ownBlock = some w.heap.size) : Rows3 W base w' L ls V' (vs ++ [x]) I is :=
 { bel := h.bel.grown hg h.sz fun k hk => (h.oV.lt k hk).1, sz := Nat.le_trans h.sz hg.size, sW := Nat.le_trans h.sW hg.size, oL := h.oL.kept hg h.aLV, oV := by rw [List.length_append, ← ic_push]; exact ho, oI := h.oI.kept hg h.aVI.symm, aLV := h.aLV.new h.oL hat, aLI := h.aLI, aVI := (h.aVI.symm.new h.oI hat).symm }
theorem Rows3.pushI (h : Rows3 W base w L ls V vs I is) (hg : w.grownBy w' I.ownBlock) (ho : w'.ownsRow base 3 1 I' (is.length + 1) (ic is ++ [.int .i64 x])) (hat : I'.ownBlock = I.ownBlock ∨ I'.ownBlock = some w.heap.size) : Rows3 W base w' L ls V vs I' (is ++ [x]) :=
 { bel := h.bel.grown hg h.sz fun k hk => (h.oI.lt k hk).1, sz := Nat.le_trans h.sz hg.size, sW := Nat.le_trans h.sW hg.size, oL := h.oL.kept hg h.aLI, oV := h.oV.kept hg h.aVI, oI := by rw [List.length_append, ← ic_push]; exact ho, aLV := h.aLV, aLI := h.aLI.new h.oL hat, aVI := h.aVI.new h.oV hat }
theorem Rows3.nil (W : World) (base : Nat) (h : base ≤ W.heap.size) : Rows3 W base W (.slice none 0 0) [] (.slice none 0 0) [] (.slice none 0 0) [] :=
 { bel := Below.refl _ _, sz := h, sW := Nat.le_refl _, oL := World.ownsRow_nil _ _ _ _, oV := World.ownsRow_nil _ _ _ _, oI := World.ownsRow_nil _ _ _ _, aLV := .inl rfl, aLI := .inl rfl, aVI := .inl rfl }
theorem own_set' {W : World} {B s n : Nat} {e : TypeId} {v u : Value} {xs : List Value} {p : Addr} (h : W.ownsRow B e s v n xs) (hp : v.ownBlock ≠ some p.block) : (W.setCell p u).ownsRow B e s v n xs := by
 rcases h.2 with ⟨rfl, h0⟩ | ⟨g, cap, cur, rfl, hb, hg, hh⟩
 ·exact ⟨h.1, .inl ⟨rfl, h0⟩⟩
 ·exact ⟨h.1, .inr ⟨g, cap, cur, rfl, hb, (Below.heap_setCell _ _ _ _ (fun e => hp (by rw [← e]; rfl))).trans hg, hh⟩⟩
theorem own_base {W : World} {B B' s n : Nat} {e : TypeId} {v : Value} {xs : List Value} (h : W.ownsRow B e s v n xs) (hb : B' ≤ B) : W.ownsRow B' e s v n xs :=
 ⟨h.1, h.2.imp id fun ⟨g, cap, cur, h1, h2, h3⟩ => ⟨g, cap, cur, h1, Nat.le_trans hb h2, h3⟩⟩
theorem own_low {W : World} {B s n : Nat} {e : TypeId} {v : Value} {xs : List Value} (h : W.ownsRow B e s v n xs) {g : Nat} (hg : W.heap.size ≤ g ∨ g < B) : v.ownBlock ≠ some g := fun hv => by
 have := h.lt g hv; omega
theorem src_of {W : World} {H size : Nat} {T : TypeId} {vals : List Value} (hH : W.heap[H]? = some (.cells vals.toArray T (0, 0))) (hl : vals.length = size) (h1 : ∀ u ∈ vals, u.oneCell' = true) : SrcAt W (some ⟨H, 0, none⟩) 1 1 size vals where
 none := fun e => nomatch e
 len := by omega
 cells := fun ad e => by cases e; exact cells_of_block hH
 one := h1
theorem four_one {x y z u : Value} (h0 : x.oneCell' = true) (h1 : y.oneCell' = true) (h2 : z.oneCell' = true) (h3 : u.oneCell' = true) : ∀ v ∈ [x, y, z, u], v.oneCell' = true := by intro v hv; simp at hv; rcases hv with rfl | rfl | rfl | rfl <;> assumption
theorem Moves.grownTo {W W' : World} {v v' : Value} {lo : Nat} (hg : W.grownBy W' v.ownBlock) (hat : v'.ownBlock = v.ownBlock ∨ v'.ownBlock = some W.heap.size) :
  Moves W W' (fun b => b < lo ∨ v.ownBlock = some b) (fun b => b < lo ∨ v'.ownBlock = some b) :=
 Moves.grown hg (fun b h => .inr h) fun b hb h => by
  rcases h with h | h
  ·exact .inl h
  ·rcases hat with e | e
   ·exact .inr (e ▸ h)
   ·rw [e] at h; cases h; omega
theorem Boxed.low {w w' : World} {b B : Nat} {t : Tsk} {p : Lies} (h : Boxed w b t p) (k : Below B w w') (hb : b < B) : Boxed w' b t p :=
 ⟨Nat.lt_of_lt_of_le h.lt k.size, (k.cell (p := ⟨b, 0, none⟩) hb).trans h.c0, (k.cell (p := ⟨b, 1, none⟩) hb).trans h.c1, (k.cell (p := ⟨b, 2, none⟩) hb).trans h.c2, (k.cell (p := ⟨b, 3, none⟩) hb).trans h.c3⟩
theorem Boxed.far {w : World} {b : Nat} {t : Tsk} {p : Lies} (h : Boxed w b t p) {q : Addr} (u : Value) (hne : b ≠ q.block) : Boxed (w.setCell q u) b t p :=
 have e : ∀ k, (w.setCell q u).cell? ⟨b, k, none⟩ = w.cell? ⟨b, k, none⟩ := fun k => World.cell?_of_block (w := w) (a := ⟨b, k, none⟩) (Below.heap_setCell _ _ _ _ hne)
 ⟨by simpa [World.setCell] using h.lt, (e 0).trans h.c0, (e 1).trans h.c1, (e 2).trans h.c2, (e 3).trans h.c3⟩
/-- The block of one number that is to be appended. -/
structure Src1 (lo : Nat) (w : World) (h : Nat) (x : Int) : Prop where
 ge : lo ≤ h
 lt : h < w.heap.size
 at_ : w.heap[h]? = some (.cells #[.int .i64 x] 3 (0, 0))
theorem Rows3.src (h : Rows3 W base w L ls V vs I is) (x : Int) : Src1 W.heap.size (w.alloc (.cells #[.int .i64 x] 3)) w.heap.size x := ⟨h.sW, by simp, heap_alloc_new _ _⟩
theorem Src1.alloc {lo g : Nat} (h : Src1 lo w g x) (o : Obj) : Src1 lo (w.alloc o) g x :=
 ⟨h.ge, by have := h.lt; simp; omega, ((World.grownBy_alloc w o none).block g h.lt (by simp)).trans h.at_⟩
theorem Src1.drew {lo g : Nat} (h : Src1 lo w g x) : Src1 lo w.drew g x := ⟨h.ge, h.lt, h.at_⟩
theorem Src1.grown {lo g : Nat} (h : Src1 lo w g x) {row : Option Nat} (hg : w.grownBy w' row) (hr : ∀ k, row = some k → k < lo) : Src1 lo w' g x :=
 ⟨h.ge, Nat.lt_of_lt_of_le h.lt hg.size, (hg.block g h.lt (fun e => by have := hr g e.symm; have := h.ge; omega)).trans h.at_⟩
theorem Src1.src {lo g : Nat} (h : Src1 lo w g x) : SrcAt w (some ⟨g, 0, none⟩) 1 1 1 [.int .i64 x] where
 none := fun e => nomatch e
 len := rfl
 cells := fun ad e => by cases e; exact cells_of_block (news := [.int .i64 x]) h.at_
 one := by intro u hu; simp at hu; subst hu; rfl
end
end

section
open Go Go.RowKit
set_option linter.unusedVariables false

/-- A box: its cells. -/
def BxI (w : World) (X : Nat) (T : TypeId) (cs : Array Value) : Prop := w.heap[X]? = some (.cells cs T (0, 0))
section
variable {w w' : World} {X : Nat} {T : TypeId} {cs : Array Value}
theorem BxI.lt (h : BxI w X T cs) : X < w.heap.size := (Array.getElem?_eq_some_iff.1 h).1
theorem BxI.kb {bad : Nat → Prop} (h : BxI w X T cs) (k : Kb bad w w') (hx : ¬ bad X) : BxI w' X T cs := (k.block X h.lt hx).trans h
theorem BxI.up (h : BxI w X T cs) (k : Below w.heap.size w w') : BxI w' X T cs := (k.block X h.lt).trans h
theorem BxI.low {B : Nat} (h : BxI w X T cs) (k : Below B w w') (hx : X < B) : BxI w' X T cs := (k.block X hx).trans h
theorem BxI.new (w : World) (T : TypeId) (cs : Array Value) : BxI (w.alloc (.cells cs T)) w.heap.size T cs := heap_alloc_new _ _
theorem BxI.new2 (w : World) (o : Obj) (T : TypeId) (cs : Array Value) : BxI ((w.alloc o).alloc (.cells cs T)) (w.heap.size + 1) T cs := by
 have := BxI.new (w.alloc o) T cs
 rw [World.size_alloc] at this
 exact this
theorem BxI.cell (h : BxI w X T cs) (i : Nat) (v : Value) (hv : cs[i]? = some v) : w.cell? ⟨X, i, none⟩ = some v := by
 unfold BxI at h; simp [World.cell?, h, hv]
theorem BxI.fz (h : BxI w X T cs) (i : Nat) : w.frozen? ⟨X, i, none⟩ = false := by
 unfold BxI at h; simp [World.frozen?, h]
theorem BxI.far (h : BxI w X T cs) {p : Addr} (hp : X ≠ p.block) (u : Value) : BxI (w.setCell p u) X T cs := (Below.heap_setCell _ _ _ _ hp).trans h
theorem BxI.set (h : BxI w X T cs) (i : Nat) (u : Value) : BxI (w.setCell ⟨X, i, none⟩ u) X T (cs.setIfInBounds i u) := by
 unfold BxI at *; simp [World.setCell, Array.getElem?_modify, h]
theorem BxI.grown {row : Option Nat} (h : BxI w X T cs) (hg : w.grownBy w' row) (hx : some X ≠ row) : BxI w' X T cs := (hg.block X h.lt hx).trans h
theorem BxI.sets : ∀ (vs : List Value) (w : World) (pre old post : List Value), old.length = vs.length → BxI w X T (pre ++ old ++ post).toArray → BxI (w.setCells X pre.length vs) X T (pre ++ vs ++ post).toArray
 | [], w, pre, old, post, hl, h => by
  have : old = [] := List.length_eq_zero_iff.1 hl
  subst this
  exact h
 | v :: r, w, pre, [], post, hl, h => by cases hl
 | v :: r, w, pre, a :: q, post, hl, h => by
  have h1 := h.set pre.length v
  have e : (pre ++ a :: q ++ post).toArray.setIfInBounds pre.length v = (pre ++ [v] ++ q ++ post).toArray := by
   simp
  rw [e] at h1
  have h2 := BxI.sets r _ (pre ++ [v]) q post (by simpa using hl) h1
  rw [show (pre ++ [v]).length = pre.length + 1 by simp] at h2
  simpa [World.setCells] using h2
theorem BxI.setAll {old : Array Value} {vs : List Value} (h : BxI w X T old) (hl : old.size = vs.length) : BxI (w.setCells X 0 vs) X T vs.toArray := by
 have := BxI.sets vs w [] old.toList [] (by simpa using hl) (by simpa using h)
 simpa using this
theorem below_sets {B b : Nat} : ∀ (vs : List Value) (o : Nat) (w' : World), Below B w w' → B ≤ b → Below B w (w'.setCells b o vs)
 | [], o, w', h, _ => h
 | v :: r, o, w', h, hb => below_sets r (o + 1) _ (h.setCell (p := ⟨b, o, none⟩) hb v) hb
theorem there_blk {g i n : Nat} {cur : Array Value} {T : TypeId} (h : w.heap[g]? = some (.cells cur T (0, 0))) (hn : i + n ≤ cur.size) : w.there g i n := fun j hj => by
 have hl : i + j < cur.size := by omega
 refine ⟨?_, by simp [World.frozen?, h]⟩
 rw [cell_of_row w g (i + j) cur T (0, 0) h, Array.getElem?_eq_getElem hl]
 rfl
theorem there_set {b i n g k : Nat} {u : Value} (h : w.there b i n) : (w.setCell ⟨g, k, none⟩ u).there b i n := fun j hj => by
 obtain ⟨h1, h2⟩ := h j hj
 exact ⟨World.isSome_setCells g [u] k w _ h1, by rw [World.frozen?_setCell]; exact h2⟩
theorem there_sets {b i n g k : Nat} {us : List Value} (h : w.there b i n) : (w.setCells g k us).there b i n := fun j hj => by
 obtain ⟨h1, h2⟩ := h j hj
 exact ⟨World.isSome_setCells g us k w _ h1, by rw [World.frozen?_setCells]; exact h2⟩
theorem there_own {B n cap g s i m : Nat} {e : TypeId} {xs : List Value} (h : w.ownsRow B e s (.slice (some ⟨g, 0, none⟩) n cap) n xs) (hi : i + m ≤ n * s) : w.there g i m := fun j hj => by
 have hl : i + j < xs.length := by rw [h.1]; omega
 refine ⟨by rw [own_cell h (List.getElem?_eq_getElem hl)]; rfl, ?_⟩
 rcases h.2 with ⟨h0, _⟩ | ⟨b, cap', cur, h1, hb, hg, _⟩
 ·cases h0
 ·injection h1 with h1 _ _
  injection h1 with h1
  injection h1 with h1 _ _
  subst h1
  simp [World.frozen?, hg]
end
section
variable {P : Program} {ops : Array Oper} {o : Oper} {a : Act} {K : Act → World → Prop} {Q : Exit → Act → World → Prop} {E : Prop} {w : World}
/-- A store of a struct. -/
theorem step_stores (hgd : o.guard = .none) (ty : TypeId) (x y : Operand) (ho : o.op = .store ty x y) (b i : Nat) (vs : List Value)
  (hx : a.eval x = .pointer (some ⟨b, i, none⟩)) (hy : a.eval y = .agg vs.toArray) (ht : w.there b i vs.length) (hi : (P.info? ty).map (·.size) = some vs.length)
  (h1 : ∀ v ∈ vs, v.oneCell' = true) (h : ∀ w', Hid (w' = w.setCells b i vs) → K (a.put o.dst undef) w') :
  if Region.wanted o (yielded ops a.tmps) = true then Oper.wp P o a w K Q else E := by
 have hw : Region.wanted o (yielded ops a.tmps) = true := by simp [Region.wanted, hgd]
 rw [if_pos hw]
 exact wp_store_mid ty x y ho b i vs.toArray hx hy (by simpa using ht) (by simpa using hi) (all_oneCell_toArray h1) (h _ (Lib.hid (by simp)))
theorem wpList_stores {rest : List Oper} (hgd : o.guard = .none) (ty : TypeId) (x y : Operand) (ho : o.op = .store ty x y) (b i : Nat) (vs : List Value)
  (hx : a.eval x = .pointer (some ⟨b, i, none⟩)) (hy : a.eval y = .agg vs.toArray) (ht : w.there b i vs.length) (hi : (P.info? ty).map (·.size) = some vs.length)
  (h1 : ∀ v ∈ vs, v.oneCell' = true) (h : ∀ w', Hid (w' = w.setCells b i vs) → wpList P ops Q rest (a.put o.dst undef) w') :
  wpList P ops Q (o :: rest) a w :=
 wpList_plain hgd fun _ hK => wp_store_mid ty x y ho b i vs.toArray hx hy (by simpa using ht) (by simpa using hi) (all_oneCell_toArray h1) (hK _ _ (h _ (Lib.hid (by simp))))
/-- A store of one cell. -/
theorem run_storeAt_one (b i : Nat) (ty : TypeId) (v : Value) (hv : v.cells = #[v]) (ht : w.there b i 1) (hi : (P.info? ty).map (·.size) = some 1) (h1 : v.oneCell' = true) :
  (Instr.storeAt ty (.pointer (some ⟨b, i, none⟩)) v).run P w = .ok () (w.setCell ⟨b, i, none⟩ v) := by
 have := run_storeCells_cells (P := P) b i [v] 0 w (fun j hj => by simpa using (ht j (by simpa using hj)).1) (fun j hj => by simpa using (ht j (by simpa using hj)).2)
  (fun u hu => by simp at hu; subst hu; exact h1)
 cases hq : P.info? ty with
 | none => simp [hq] at hi
 | some t =>
  have hs : t.size = 1 := by simpa [hq] using hi
  simp only [Nat.add_zero] at this
  simp only [Instr.storeAt, Instr.sureAddr, Sem.run_bind, Sem.run_pure, Result.andThen_ok, storeVar, sizeOf, typeInfo, hq, hv, hs]
  simp [Sem.run_bind, this, hq, hs]
  rfl
theorem step_store1 (hgd : o.guard = .none) (ty : TypeId) (x y : Operand) (ho : o.op = .store ty x y) (b i : Nat) (v : Value) (hv : v.cells = #[v])
  (hx : a.eval x = .pointer (some ⟨b, i, none⟩)) (hy : a.eval y = v) (ht : w.there b i 1) (hi : (P.info? ty).map (·.size) = some 1)
  (h1 : v.oneCell' = true) (h : ∀ w', Hid (w' = w.setCell ⟨b, i, none⟩ v) → K (a.put o.dst undef) w') :
  if Region.wanted o (yielded ops a.tmps) = true then Oper.wp P o a w K Q else E := by
 have hw : Region.wanted o (yielded ops a.tmps) = true := by simp [Region.wanted, hgd]
 rw [if_pos hw]
 unfold Oper.wp execOp
 simp only [ho, hx, hy, Sem.run_bind, run_storeAt_one b i ty v hv ht hi h1, Sem.run_pure, Result.andThen_ok]
 exact h _ (Lib.hid rfl)
theorem wpList_store1 {rest : List Oper} (hgd : o.guard = .none) (ty : TypeId) (x y : Operand) (ho : o.op = .store ty x y) (b i : Nat) (v : Value) (hv : v.cells = #[v])
  (hx : a.eval x = .pointer (some ⟨b, i, none⟩)) (hy : a.eval y = v) (ht : w.there b i 1) (hi : (P.info? ty).map (·.size) = some 1)
  (h1 : v.oneCell' = true) (h : ∀ w', Hid (w' = w.setCell ⟨b, i, none⟩ v) → wpList P ops Q rest (a.put o.dst undef) w') : wpList P ops Q (o :: rest) a w :=
 wpList_plain hgd fun K' hK => by
  unfold Oper.wp execOp
  simp only [ho, hx, hy, Sem.run_bind, run_storeAt_one b i ty v hv ht hi h1, Sem.run_pure, Result.andThen_ok]
  exact hK _ _ (h _ (Lib.hid rfl))
end
end

end Go.Proofs.YtlkebhiaimijiaaGreatDoor

/- A region that draws its order: loads taken first, though a last store writes a cell that they read: what is held is held till that store. -/
import Derived.Test.YtebgaicapjpohaaDoorBase
import Derived.OrdersHeld
import Derived.Deep.RegionHeld
namespace Go.Proofs.YtebgaicapjpohaaDoor
set_option linter.unusedSimpArgs false
set_option linter.unusedVariables false
open Go Go.RowKit
set_option linter.unusedVariables false

section
variable {P : Program} {ops : Array Oper} {Q : Exit → Act → World → Prop} {md : Region.Mode} {S T : World → Prop} {st : Nat}
/-- Operation j waits for operation i. -/
def waits (md : Region.Mode) (ops : Array Oper) (j i : Nat) : Bool :=
  match ops[j]? with
  | some oj => oj.after.any fun e => Region.binds md e && e.on == i
  | none => false
inductive Path (md : Region.Mode) (ops : Array Oper) (i : Nat) : Nat → Prop
  | refl : Path md ops i i
  | step {j k : Nat} : Path md ops i j → waits md ops k j = true → Path md ops i k
/-- Which of the first n operations wait for i, through others. -/
def pathL (md : Region.Mode) (ops : Array Oper) (i : Nat) : Nat → List Bool
  | 0 => []
  | n + 1 => pathL md ops i n ++ [(n == i) || (match ops[n]? with
      | some oj => oj.after.any fun e => Region.binds md e && (pathL md ops i n).getD e.on false
      | none => false)]
theorem pathL_len (i : Nat) : ∀ n, (pathL md ops i n).length = n
  | 0 => rfl
  | n + 1 => by show (pathL md ops i n ++ [_]).length = _; simp [pathL_len i n]
theorem pathL_path (i : Nat) : ∀ (n j : Nat), (pathL md ops i n).getD j false = true → Path md ops i j
  | 0, j, h => by simp [pathL] at h
  | n + 1, j, h => by
    have hl := pathL_len (md := md) (ops := ops) i n
    unfold pathL at h
    simp only [List.getD] at h
    by_cases hj : j < n
    · rw [List.getElem?_append_left (by omega)] at h
      exact pathL_path i n j h
    · rw [List.getElem?_append_right (by omega), hl] at h
      by_cases e : j = n
      · subst e
        rw [Nat.sub_self] at h
        simp only [List.getElem?_cons_zero, Option.getD_some, Bool.or_eq_true, beq_iff_eq] at h
        rcases h with h | h
        · subst h; exact .refl
        · split at h
          · rename_i oj ho
            obtain ⟨e, he, h2⟩ := Array.any_eq_true'.1 h
            simp only [Bool.and_eq_true] at h2
            have hp := pathL_path i j e.on h2.2
            refine .step hp ?_
            unfold waits
            rw [ho]
            exact Array.any_eq_true'.2 ⟨e, he, by simp [h2.1]⟩
          · cases h
      · have : 0 < j - n := by omega
        obtain ⟨d, hd⟩ : ∃ d, j - n = d + 1 := ⟨j - n - 1, by omega⟩
        rw [hd] at h
        simp at h
def pathB (md : Region.Mode) (ops : Array Oper) (i s : Nat) : Bool := (pathL md ops i (s + 1)).getD s false
theorem path_of {i s : Nat} (h : pathB md ops i s = true) : Path md ops i s := pathL_path i _ s h
/-- What has come up is closed under waiting. -/
def Cl (md : Region.Mode) (ops : Array Oper) (listed : Array Bool) : Prop :=
  ∀ j oj, ops[j]? = some oj → listed.getD j false = true → ∀ e ∈ oj.after, Region.binds md e = true → listed.getD e.on false = true
theorem cl_set {listed : Array Bool} {i : Nat} (h : Cl md ops listed) (hi : i ∈ Region.ready md ops listed) : Cl md ops (listed.setIfInBounds i true) := by
  obtain ⟨_, oi, hoi, hall⟩ := mem_ready.1 hi
  intro j oj hj hl e he hb
  by_cases hij : i = j
  · subst hij
    have : oj = oi := Option.some.inj (hj.symm.trans hoi)
    subst this
    exact getD_set_true (hall e he hb)
  · rw [getD_set_ne false hij] at hl
    exact getD_set_true (h j oj hj hl e he hb)
theorem cl_start (n : Nat) : Cl md ops (Array.replicate n false) := fun j oj hj hl e he hb => by
  exfalso
  rcases Nat.lt_or_ge j n with h | h
  · simp [h] at hl
  · simp [h] at hl
theorem cl_path {listed : Array Bool} {i s : Nat} (h : Cl md ops listed) (hp : Path md ops i s) (hs : listed.getD s false = true) : listed.getD i false = true := by
  induction hp with
  | refl => exact hs
  | @step j k hp hw ih =>
    unfold waits at hw
    split at hw
    · rename_i oj ho
      obtain ⟨e, he, h2⟩ := Array.any_eq_true'.1 hw
      simp only [Bool.and_eq_true, beq_iff_eq] at h2
      have := h k oj ho hs e he h2.1
      rw [h2.2] at this
      exact ih this
    · cases hw
def Gd (st : Nat) (S : World → Prop) (listed : Array Bool) (w : World) : Prop := listed.getD st false = false → S w
def wpAnyG (P : Program) (md : Region.Mode) (ops : Array Oper) (Q : Exit → Act → World → Prop) (st : Nat) (S : World → Prop) : Nat → Array Bool → Act → World → Prop
  | 0, listed, a, w => Region.ready md ops listed = [] ∧ Q .normal a w
  | fuel + 1, listed, a, w =>
    (Region.ready md ops listed = [] → Q .normal a w) ∧
    ∀ i ∈ Region.ready md ops listed, wpOp P ops Q i (fun a' w' => Gd st S (listed.setIfInBounds i true) w' ∧ wpAnyG P md ops Q st S fuel (listed.setIfInBounds i true) a' w') a w
theorem wpAny_of_G : ∀ (fuel : Nat) (listed : Array Bool) (a : Act) (w : World), wpAnyG P md ops Q st S fuel listed a w → wpAny P md ops Q fuel listed a w
  | 0, _, _, _, h => h
  | fuel + 1, _, _, _, h => ⟨h.1, fun i hi => wpOp_mono (fun a' w' h' => wpAny_of_G fuel _ a' w' h'.2) (h.2 i hi)⟩
theorem getD_un {listed : Array Bool} {i j : Nat} (h : (listed.setIfInBounds i true).getD j false = false) : listed.getD j false = false := by
  cases e : listed.getD j false with
  | false => rfl
  | true => rw [getD_set_true e] at h; cases h
theorem getD_TF {listed : Array Bool} {i : Nat} (h : listed.getD i true = false) : listed.getD i false = false := by
  rcases Nat.lt_or_ge i listed.size with h' | h'
  · simp [h'] at h ⊢; exact h
  · simp [Array.getElem?_eq_none h'] at h

theorem wpAnyG_first {i : Nat} {oi : Oper} {v : Value} (hi : ops[i]? = some oi) (hsel : ∀ (j : Nat) (o : Oper) cs b, ops[j]? = some o → o.op ≠ .select cs b)
    (hQ : ∀ c a w, Q (.panic c) (a.put oi.dst v) w → Q (.panic c) a w) (hne : i ≠ st)
    (hT : ∀ (listed : Array Bool) (w : World), Cl md ops listed → listed.getD i true = false → Gd st S listed w → T w) :
    ∀ (fuel : Nat) (listed : Array Bool) (a : Act) (w : World), Cl md ops listed →
      (∀ j oj, ops[j]? = some oj → j ≠ i → listed.getD j true = false → (∀ e ∈ oj.after, Region.binds md e = true → e.on ≠ i) → oi.apart ops oj = true) →
      i ∈ Region.ready md ops listed → YieldsIf P ops T oi v a → Gd st S listed w →
      wpAnyG P md ops Q st S fuel (listed.setIfInBounds i true) (a.put oi.dst v) w → wpAnyG P md ops Q st S (fuel + 1) listed a w := by
  intro fuel
  induction fuel with
  | zero =>
    intro listed a w hcl _ hr hy hS H
    refine ⟨fun h => (by rw [h] at hr; cases hr), fun j hj => ?_⟩
    by_cases hji : j = i
    · subst hji
      exact hy.wpOp hi (hT _ _ hcl (mem_ready.1 hr).1 hS) ⟨fun h => hS (getD_un h), H⟩
    · have := ready_mono hj hji
      rw [H.1] at this
      cases this
  | succ fuel ih =>
    intro listed a w hcl hfree hr hy hS H
    refine ⟨fun h => (by rw [h] at hr; cases hr), fun j hj => ?_⟩
    by_cases hji : j = i
    · subst hji
      exact hy.wpOp hi (hT _ _ hcl (mem_ready.1 hr).1 hS) ⟨fun h => hS (getD_un h), H⟩
    · have h1 := H.2 j (ready_mono hj hji)
      obtain ⟨hjun, oj, hoj, hall⟩ := mem_ready.1 hj
      have hnot : ∀ e ∈ oj.after, Region.binds md e = true → e.on ≠ i := fun e he hb heq => by
        have h1 := hall e he hb
        have h0 := (mem_ready.1 hr).1
        rw [heq] at h1
        rcases Nat.lt_or_ge i listed.size with h' | h'
        · simp [h'] at h0 h1; rw [h0] at h1; cases h1
        · simp [Array.getElem?_eq_none h'] at h1
      have h2 := wpOp_putIf hoj (hfree j oj hoj hji hjun hnot) (fun cs b => hsel i oi cs b hi) (fun cs b => hsel j oj cs b hoj) hQ hy h1
      have hfree' : ∀ k ok, ops[k]? = some ok → k ≠ i → (listed.setIfInBounds j true).getD k true = false →
          (∀ e ∈ ok.after, Region.binds md e = true → e.on ≠ i) → oi.apart ops ok = true := fun k ok hk hki hun hno => by
        refine hfree k ok hk hki ?_ hno
        by_cases hjk : j = k
        · subst hjk; exact hjun
        · rw [getD_set_ne true hjk] at hun; exact hun
      refine wpOp_mono (fun a' w' h3 => ?_) h2
      obtain ⟨g1, g2, g3⟩ := h3
      have hG : Gd st S (listed.setIfInBounds j true) w' := fun h => g2 (by
        rw [← Array.setIfInBounds_comm _ _ hji, getD_set_ne false hne]
        exact h)
      refine ⟨hG, ih (listed.setIfInBounds j true) a' w' (cl_set hcl hj) hfree' (ready_mono hr (Ne.symm hji)) g1 hG ?_⟩
      rw [Array.setIfInBounds_comm _ _ hji]
      exact g3

theorem wpAnyG_take {i : Nat} {oi : Oper} {v : Value} {fuel : Nat} {listed : Array Bool} {a : Act} {w : World} (hi : ops[i]? = some oi) (hcl : Cl md ops listed ∧ Gd st S listed w)
    (hs : Region.noSelect ops = true) (hf : Region.free md ops listed i = true) (hr : (Region.ready md ops listed).contains i = true) (hne : (i == st) = false) (hp : pathB md ops i st = true)
    (hQ : ∀ c a w, Q (.panic c) (a.put oi.dst v) w → Q (.panic c) a w) (hy : YieldsIf P ops S oi v a)
    (h : Cl md ops (listed.setIfInBounds i true) ∧ Gd st S (listed.setIfInBounds i true) w → wpAnyG P md ops Q st S fuel (listed.setIfInBounds i true) (a.put oi.dst v) w) : wpAnyG P md ops Q st S (fuel + 1) listed a w :=
  have hr' : i ∈ Region.ready md ops listed := by simpa using hr
  wpAnyG_first hi (Region.noSelect_spec hs) hQ (by simpa using hne) (T := S) (fun l w' hc hl hg => hg (by
    cases e : l.getD st false with
    | false => rfl
    | true => have h3 := cl_path hc (path_of hp) e; rw [getD_TF hl] at h3; cases h3)) fuel listed a w hcl.1 (Region.free_spec hi hf) hr' hy hcl.2 (h ⟨cl_set hcl.1 hr', fun h => hcl.2 (getD_un h)⟩)
theorem wpAnyG_any {i : Nat} {oi : Oper} {v : Value} {fuel : Nat} {listed : Array Bool} {a : Act} {w : World} (hi : ops[i]? = some oi) (hcl : Cl md ops listed ∧ Gd st S listed w)
    (hs : Region.noSelect ops = true) (hf : Region.free md ops listed i = true) (hr : (Region.ready md ops listed).contains i = true) (hne : (i == st) = false)
    (hQ : ∀ c a w, Q (.panic c) (a.put oi.dst v) w → Q (.panic c) a w) (hy : YieldsIf P ops (fun _ => True) oi v a)
    (h : Cl md ops (listed.setIfInBounds i true) ∧ Gd st S (listed.setIfInBounds i true) w → wpAnyG P md ops Q st S fuel (listed.setIfInBounds i true) (a.put oi.dst v) w) : wpAnyG P md ops Q st S (fuel + 1) listed a w :=
  have hr' : i ∈ Region.ready md ops listed := by simpa using hr
  wpAnyG_first hi (Region.noSelect_spec hs) hQ (by simpa using hne) (T := fun _ => True) (fun _ _ _ _ _ => trivial) fuel listed a w hcl.1 (Region.free_spec hi hf) hr' hy hcl.2 (h ⟨cl_set hcl.1 hr', fun h => hcl.2 (getD_un h)⟩)
/-- Each of the operations rs comes up next. -/
def AllG (P : Program) (md : Region.Mode) (ops : Array Oper) (Q : Exit → Act → World → Prop) (st : Nat) (S : World → Prop) (fuel : Nat) (listed : Array Bool) (a : Act) (w : World) (rs : List Nat) : Prop :=
  ∀ i ∈ rs, i ∈ Region.ready md ops listed → wpOp P ops Q i (fun a' w' => Gd st S (listed.setIfInBounds i true) w' ∧ wpAnyG P md ops Q st S fuel (listed.setIfInBounds i true) a' w') a w
theorem AllG.nil {fuel : Nat} {listed : Array Bool} {a : Act} {w : World} : AllG P md ops Q st S fuel listed a w [] := fun _ h => by cases h
theorem AllG.cons {fuel : Nat} {listed : Array Bool} {a : Act} {w : World} {i : Nat} {o : Oper} {rs : List Nat} (ho : ops[i]? = some o) (hcl : Cl md ops listed ∧ Gd st S listed w)
    (h : ∀ K' : Act → World → Prop, Shut (∀ a w, ((i == st || listed.getD st false) = true ∨ S w) → (Cl md ops (listed.setIfInBounds i true) ∧ Gd st S (listed.setIfInBounds i true) w → wpAnyG P md ops Q st S fuel (listed.setIfInBounds i true) a w) → K' a w) → if Region.wanted o (yielded ops a.tmps) = true then Oper.wp P o a w K' Q else K' (a.put o.dst undef) w)
    (hs : AllG P md ops Q st S fuel listed a w rs) : AllG P md ops Q st S fuel listed a w (i :: rs) := fun j hj hjr => by
  rcases List.mem_cons.1 hj with rfl | hj
  · refine wpOp_step ho (fun K' hK => h K' (fun a w hS hW => ?_))
    have hG : Gd st S (listed.setIfInBounds j true) w := fun h0 => by
      rcases hS with hS | hS
      · exfalso
        simp only [Bool.or_eq_true, beq_iff_eq] at hS
        rcases hS with hS | hS
        · subst hS
          have hlt : j < listed.size := by
            rcases Nat.lt_or_ge j listed.size with h' | h'
            · exact h'
            · have := (mem_ready.1 hjr).1; simp [Array.getElem?_eq_none h'] at this
          simp [hlt] at h0
        · rw [getD_set_true hS] at h0; cases h0
      · exact hS
    exact hK a w ⟨hG, hW ⟨cl_set hcl.1 hjr, hG⟩⟩
  · exact hs j hj hjr
theorem wpAnyG_ready {rs : List Nat} {fuel : Nat} {listed : Array Bool} {a : Act} {w : World} (hr : Region.ready md ops listed = rs) (hne : rs ≠ [])
    (h : AllG P md ops Q st S fuel listed a w rs) : wpAnyG P md ops Q st S (fuel + 1) listed a w :=
  ⟨fun h0 => absurd (hr ▸ h0) hne, fun i hi => h i (hr ▸ hi) hi⟩
theorem wpAnyG_done {listed : Array Bool} {a : Act} {w : World} (hr : Region.ready md ops listed = []) (h : Q .normal a w) :
    ∀ fuel, wpAnyG P md ops Q st S fuel listed a w
  | 0 => ⟨hr, h⟩
  | _ + 1 => ⟨fun _ => h, by rw [hr]; simp⟩
/-- The beginning. -/
theorem wp_region_G {id : Nat} {a : Act} {w : World} (st : Nat) (S : World → Prop) (hm : P.follows .mixedOrders = true) (hS : S w.drew)
    (h : Cl .any ops (Array.replicate ops.size false) ∧ Gd st S (Array.replicate ops.size false) w.drew → wpAnyG P .any ops Q st S ops.size (Array.replicate ops.size false) a w.drew) : (Code.region id ops true).wp P Q a w :=
  wp_region_any hm (wpAny_of_G _ _ _ _ (h ⟨cl_start _, fun _ => hS⟩))
end

end Go.Proofs.YtebgaicapjpohaaDoor

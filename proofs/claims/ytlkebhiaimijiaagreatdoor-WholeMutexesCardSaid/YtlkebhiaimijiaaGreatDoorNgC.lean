/- Texts laid together: VaA, VaI, Mat, Own, App, Fac, Cif. -/
import Derived.Test.YtlkebhiaimijiaaGreatDoorNgB
import Derived.Test.YtlkebhiaimijiaaGreatDoorNgA
import Derived.Deep.OwnRows
import Derived.Maps.AppendAt
import Derived.Deep.AppendLies
import Derived.Laws.AppendOwnNone
import Derived.Deep.RegionHeld3
namespace Go.Proofs.YtlkebhiaimijiaaGreatDoor
set_option linter.unusedSimpArgs false
set_option linter.unusedVariables false
section
open Go.RowKit
set_option linter.unusedVariables false

abbrev Fct := Int × Int
def Asc (p : List Fct) : Prop := p.Pairwise fun a b => a.1 < b.1
def InV (vars : List Int) (p : List Fct) : Prop := ∀ x ∈ p, 0 ≤ x.1 ∧ x.1 < (vars.length : Int) ∧ 0 ≤ x.2 ∧ x.2 < nth vars x.1.toNat
def Pos (p : List Fct) : Prop := ∀ x ∈ p, 0 ≤ x.1 ∧ 0 ≤ x.2
/-- Sub: all facts of b are in a. -/
def Sub (b a : List Fct) : Prop := ∀ x ∈ b, x ∈ a

theorem fct_get {p : List Fct} {k : Nat} (h : k < p.length) : p[k] = (fv p k, fx p k) := by
 unfold fv fx; simp [List.getD, List.getElem?_eq_getElem h]
theorem fct_mem {p : List Fct} {k : Nat} (h : k < p.length) : (fv p k, fx p k) ∈ p := by rw [← fct_get h]; exact List.getElem_mem h
theorem mem_fct {p : List Fct} {x : Fct} (h : x ∈ p) : ∃ k, k < p.length ∧ x = (fv p k, fx p k) := by
 obtain ⟨k, hk, rfl⟩ := List.mem_iff_getElem.1 h
 exact ⟨k, hk, fct_get hk⟩
theorem asc_iff {p : List Fct} : Asc p ↔ ∀ k, k < p.length → 0 < k → fv p (k - 1) < fv p k := by
 unfold Asc
 rw [List.pairwise_iff_getElem]
 constructor
 ·intro h k hk h0
  have := h (k - 1) k (by omega) hk (by omega)
  rwa [fct_get (by omega), fct_get hk] at this
 ·intro h i j hi hj hij
  rw [fct_get hi, fct_get hj]
  show fv p i < fv p j
  obtain ⟨d, rfl⟩ : ∃ d, j = i + d + 1 := ⟨j - i - 1, by omega⟩
  clear hij hi
  induction d with
  | zero => simpa using h (i + 1) hj (by omega)
  | succ d ih =>
   have h1 := ih (by omega)
   have h2 := h (i + (d + 1) + 1) hj (by omega)
   simp only [Nat.add_sub_cancel] at h2
   have e : i + (d + 1) = i + d + 1 := by omega
   rw [e] at h2 ⊢
   omega
theorem fa_iff {vars : List Int} {p : List Fct} : faB vars p = true ↔ Asc p ∧ InV vars p := by
 unfold faB
 rw [decide_eq_true_eq, asc_iff]
 unfold FaP
 constructor
 ·intro h
  refine ⟨fun k hk => (h k hk).2.2.2.2, fun x hx => ?_⟩
  obtain ⟨k, hk, rfl⟩ := mem_fct hx
  obtain ⟨a, b, c, d, _⟩ := h k hk
  exact ⟨a, b, c, d⟩
 ·rintro ⟨h1, h2⟩ k hk
  obtain ⟨a, b, c, d⟩ := h2 _ (fct_mem hk)
  exact ⟨a, b, c, d, h1 k hk⟩
theorem InV.pos {vars : List Int} {p : List Fct} (h : InV vars p) : Pos p := fun x hx => ⟨(h x hx).1, (h x hx).2.2.1⟩
theorem InV.sub {vars : List Int} {p q : List Fct} (h : InV vars p) (hs : Sub q p) : InV vars q := fun x hx => h x (hs x hx)
theorem fa_asc {vars : List Int} {p : List Fct} (h : faB vars p = true) : Asc p := (fa_iff.1 h).1
theorem fa_inv {vars : List Int} {p : List Fct} (h : faB vars p = true) : InV vars p := (fa_iff.1 h).2
theorem fa_pos {vars : List Int} {p : List Fct} (h : faB vars p = true) : Pos p := (fa_inv h).pos
theorem ho_iff {p : List Fct} {s : List Int} : hoB p s = true ↔ ∀ x ∈ p, 0 ≤ x.1 ∧ x.1 < (s.length : Int) ∧ nth s x.1.toNat = x.2 := by
 unfold hoB
 rw [decide_eq_true_eq]
 unfold HoP
 constructor
 ·intro h x hx
  obtain ⟨k, hk, rfl⟩ := mem_fct hx
  exact h k hk
 ·intro h k hk
  exact h _ (fct_mem hk)
theorem ho_sub {p q : List Fct} {s : List Int} (h : hoB p s = true) (hs : Sub q p) : hoB q s = true := ho_iff.2 fun x hx => ho_iff.1 h x (hs x hx)
theorem asc_nil : Asc [] := List.Pairwise.nil
theorem asc_one (x : Fct) : Asc [x] := by unfold Asc; simp
/-- Two facts of one variable are one. -/
theorem asc_uni {p : List Fct} (h : Asc p) {x y : Fct} (hx : x ∈ p) (hy : y ∈ p) (e : x.1 = y.1) : x = y := by
 induction p with
 | nil => cases hx
 | cons a r ih =>
  unfold Asc at h
  rw [List.pairwise_cons] at h
  rcases List.mem_cons.1 hx with rfl | hx'
  ·rcases List.mem_cons.1 hy with rfl | hy'
   ·rfl
   ·have := h.1 y hy'; omega
  ·rcases List.mem_cons.1 hy with rfl | hy'
   ·have := h.1 x hx'; omega
   ·exact ih h.2 hx' hy'
theorem asc_ext : ∀ {a b : List Fct}, Asc a → Asc b → (∀ x, x ∈ a ↔ x ∈ b) → a = b
 | [], [], _, _, _ => rfl
 | [], y :: b, _, _, h => absurd ((h y).2 (by simp)) (by simp)
 | x :: a, [], _, _, h => absurd ((h x).1 (by simp)) (by simp)
 | x :: a, y :: b, ha, hb, h => by
  unfold Asc at ha hb
  rw [List.pairwise_cons] at ha hb
  have hxy : x = y := by
   rcases List.mem_cons.1 ((h x).1 (by simp)) with e | e
   ·exact e
   ·rcases List.mem_cons.1 ((h y).2 (by simp)) with e2 | e2
    ·exact e2.symm
    ·have h1 := hb.1 x e
     have h2 := ha.1 y e2
     omega
  subst hxy
  have hr : ∀ z, z ∈ a ↔ z ∈ b := fun z => by
   constructor
   ·intro hz
    rcases List.mem_cons.1 ((h z).1 (List.mem_cons_of_mem _ hz)) with e | e
    ·subst e; have := ha.1 z hz; omega
    ·exact e
   ·intro hz
    rcases List.mem_cons.1 ((h z).2 (List.mem_cons_of_mem _ hz)) with e | e
    ·subst e; have := hb.1 z hz; omega
    ·exact e
  rw [asc_ext ha.2 hb.2 hr]
/-- A part of as many facts is the whole. -/
theorem asc_len {a b : List Fct} (ha : Asc a) (hs : Sub a b) : a.length ≤ b.length := by
 have hn : a.Nodup := List.Pairwise.imp (fun {x y} h e => by rw [e] at h; omega) ha
 exact hn.length_le_of_subset hs
theorem asc_nodup {a : List Fct} (ha : Asc a) : a.Nodup := List.Pairwise.imp (fun {x y} h e => by rw [e] at h; omega) ha
theorem sub_eq {a b : List Fct} (ha : Asc a) (hb : Asc b) (hs : Sub a b) (hl : b.length ≤ a.length) : a = b := by
 refine asc_ext ha hb fun x => ⟨fun hx => hs x hx, fun hx => ?_⟩
 refine Classical.byContradiction fun hn => ?_
 have h1 : a ⊆ b.erase x := fun y hy => (List.mem_erase_of_ne (fun e => hn (by rw [← e]; exact hy))).2 (hs y hy)
 have h2 := (asc_nodup ha).length_le_of_subset h1
 rw [List.length_erase_of_mem hx] at h2
 have h3 := List.length_pos_of_mem hx
 omega

/-- The program's valid. -/
def VaP (p : List Fct) : Prop := ∀ k, k < p.length → 0 ≤ fv p k ∧ 0 ≤ fx p k ∧ (0 < k → fv p (k - 1) < fv p k)
instance (p : List Fct) : Decidable (VaP p) := by unfold VaP; exact inferInstance
def vaB (p : List Fct) : Bool := decide (VaP p)
theorem va_iff {p : List Fct} : vaB p = true ↔ Asc p ∧ Pos p := by
 unfold vaB
 rw [decide_eq_true_eq, asc_iff]
 unfold VaP
 constructor
 ·intro h
  refine ⟨fun k hk => (h k hk).2.2, fun x hx => ?_⟩
  obtain ⟨k, hk, rfl⟩ := mem_fct hx
  exact ⟨(h k hk).1, (h k hk).2.1⟩
 ·rintro ⟨h1, h2⟩ k hk
  exact ⟨(h2 _ (fct_mem hk)).1, (h2 _ (fct_mem hk)).2, h1 k hk⟩
theorem fa_va {vars : List Int} {p : List Fct} (h : faB vars p = true) : vaB p = true := va_iff.2 ⟨fa_asc h, fa_pos h⟩

/-- The value of a variable; -1 without one. -/
def findF : List Fct → Int → Int
 | [], _ => -1
 | x :: r, v => if x.1 = v then x.2 else findF r v
theorem find_mem {p : List Fct} (h : Asc p) {v x : Int} (hm : (v, x) ∈ p) : findF p v = x := by
 induction p with
 | nil => cases hm
 | cons a r ih =>
  unfold findF
  split
  ·rename_i e
   have := asc_uni h (x := a) (y := (v, x)) (by simp) hm e
   rw [this]
  ·rename_i e
   rcases List.mem_cons.1 hm with e2 | e2
   ·rw [← e2] at e; exact absurd rfl e
   ·exact ih (List.pairwise_cons.1 h).2 e2
theorem find_pos : ∀ {p : List Fct} {v : Int}, 0 ≤ findF p v → (v, findF p v) ∈ p
 | [], v, h => by unfold findF at h; omega
 | a :: r, v, h => by
  by_cases e : a.1 = v
  ·have e2 : findF (a :: r) v = a.2 := if_pos e
   rw [e2]; subst e; simp
  ·have e2 : findF (a :: r) v = findF r v := if_neg e
   rw [e2] at h ⊢
   exact List.mem_cons_of_mem _ (find_pos h)
theorem find_neg {p : List Fct} (hp : Pos p) {v : Int} (h : findF p v < 0) : ∀ x, (v, x) ∉ p := by
 induction p with
 | nil => intro x hx; cases hx
 | cons a r ih =>
  unfold findF at h
  intro x hx
  split at h
  ·have := (hp a (by simp)).2; omega
  ·rename_i e
   rcases List.mem_cons.1 hx with e2 | e2
   ·rw [← e2] at e; exact e rfl
   ·exact ih (fun y hy => hp y (List.mem_cons_of_mem _ hy)) h x e2
/-- contains: all facts of b are in a. -/
def cnB (a b : List Fct) : Bool := b.all fun f => findF a f.1 == f.2
theorem cn_iff {a b : List Fct} (ha : Asc a) (hb : Pos b) : cnB a b = true ↔ Sub b a := by
 unfold cnB Sub
 rw [List.all_eq_true]
 constructor
 ·intro h x hx
  have h1 := h x hx
  rw [beq_iff_eq] at h1
  have h2 := find_pos (p := a) (v := x.1) (by rw [h1]; exact (hb x hx).2)
  rw [h1] at h2
  exact h2
 ·intro h x hx
  rw [beq_iff_eq]
  exact find_mem ha (h x hx)
/-- conflict: another value of a variable of b is in a. -/
def cfB (a b : List Fct) : Bool := b.any fun f => decide (0 ≤ findF a f.1) && !(findF a f.1 == f.2)
theorem cf_iff {a b : List Fct} (ha : Asc a) (hp : Pos a) : cfB a b = true ↔ ∃ f ∈ b, ∃ x, (f.1, x) ∈ a ∧ x ≠ f.2 := by
 unfold cfB
 rw [List.any_eq_true]
 constructor
 ·rintro ⟨f, hf, h⟩
  simp only [Bool.and_eq_true, decide_eq_true_eq, Bool.not_eq_true', beq_eq_false_iff_ne] at h
  exact ⟨f, hf, _, find_pos h.1, h.2⟩
 ·rintro ⟨f, hf, x, hx, hne⟩
  refine ⟨f, hf, ?_⟩
  simp only [Bool.and_eq_true, decide_eq_true_eq, Bool.not_eq_true', beq_eq_false_iff_ne]
  rw [find_mem ha hx]
  exact ⟨(hp _ hx).2, hne⟩
theorem cf_no {a b : List Fct} {s : List Int} (ha : Asc a) (hp : Pos a) (h1 : hoB a s = true) (h2 : hoB b s = true) : cfB a b = false := by
 cases h : cfB a b
 ·rfl
 ·obtain ⟨f, hf, x, hx, hne⟩ := (cf_iff ha hp).1 h
  have h3 := (ho_iff.1 h1 _ hx).2.2
  have h4 := (ho_iff.1 h2 _ hf).2.2
  exact absurd (h3.symm.trans h4) hne

/-- The union of two partial states; none where they contradict each other. -/
def mrg : List Fct → List Fct → Option (List Fct)
 | [], b => some b
 | x :: a, [] => some (x :: a)
 | x :: a, y :: b => if x.1 < y.1 then (mrg a (y :: b)).map (x :: ·) else if y.1 < x.1 then (mrg (x :: a) b).map (y :: ·) else if x.2 = y.2 then (mrg a b).map (x :: ·) else none
termination_by a b => a.length + b.length
theorem mrg_mem : ∀ {a b z : List Fct}, mrg a b = some z → ∀ x, x ∈ z ↔ x ∈ a ∨ x ∈ b
 | [], b, z, h => by unfold mrg at h; cases h; simp
 | x :: a, [], z, h => by unfold mrg at h; cases h; simp
 | x :: a, y :: b, z, h => by
  unfold mrg at h
  split at h
  ·obtain ⟨z', h1, rfl⟩ := Option.map_eq_some_iff.1 h
   intro u
   have := mrg_mem h1 u
   simp only [List.mem_cons] at this ⊢
   rw [this]; grind
  ·split at h
   ·obtain ⟨z', h1, rfl⟩ := Option.map_eq_some_iff.1 h
    intro u
    have := mrg_mem h1 u
    simp only [List.mem_cons] at this ⊢
    rw [this]; grind
   ·split at h
    ·rename_i h1 h2 h3
     obtain ⟨z', h4, rfl⟩ := Option.map_eq_some_iff.1 h
     have e : x = y := Prod.ext (by omega) h3
     subst e
     intro u
     have := mrg_mem h4 u
     simp only [List.mem_cons] at this ⊢
     rw [this]; grind
    ·cases h
termination_by a b => a.length + b.length
theorem mrg_asc : ∀ {a b z : List Fct}, mrg a b = some z → Asc a → Asc b → Asc z
 | [], b, z, h, _, hb => by unfold mrg at h; cases h; exact hb
 | x :: a, [], z, h, ha, _ => by unfold mrg at h; cases h; exact ha
 | x :: a, y :: b, z, h, ha, hb => by
  have ha' := List.pairwise_cons.1 ha
  have hb' := List.pairwise_cons.1 hb
  unfold mrg at h
  split at h
  ·rename_i hlt
   obtain ⟨z', h1, rfl⟩ := Option.map_eq_some_iff.1 h
   refine List.pairwise_cons.2 ⟨fun u hu => ?_, mrg_asc h1 ha'.2 hb⟩
   rcases (mrg_mem h1 u).1 hu with hu | hu
   ·exact ha'.1 u hu
   ·rcases List.mem_cons.1 hu with rfl | hu
    ·exact hlt
    ·have := hb'.1 u hu; omega
  ·rename_i hn1
   split at h
   ·rename_i hlt
    obtain ⟨z', h1, rfl⟩ := Option.map_eq_some_iff.1 h
    refine List.pairwise_cons.2 ⟨fun u hu => ?_, mrg_asc h1 ha hb'.2⟩
    rcases (mrg_mem h1 u).1 hu with hu | hu
    ·rcases List.mem_cons.1 hu with rfl | hu
     ·exact hlt
     ·have := ha'.1 u hu; omega
    ·exact hb'.1 u hu
   ·rename_i hn2
    split at h
    ·obtain ⟨z', h1, rfl⟩ := Option.map_eq_some_iff.1 h
     refine List.pairwise_cons.2 ⟨fun u hu => ?_, mrg_asc h1 ha'.2 hb'.2⟩
     rcases (mrg_mem h1 u).1 hu with hu | hu
     ·exact ha'.1 u hu
     ·have := hb'.1 u hu; omega
    ·cases h
termination_by a b => a.length + b.length
theorem mrg_none : ∀ {a b : List Fct}, mrg a b = none → ∃ f ∈ a, ∃ g ∈ b, f.1 = g.1 ∧ f.2 ≠ g.2
 | [], b, h => by unfold mrg at h; cases h
 | x :: a, [], h => by unfold mrg at h; cases h
 | x :: a, y :: b, h => by
  unfold mrg at h
  split at h
  ·obtain ⟨f, hf, g, hg, e⟩ := mrg_none (Option.map_eq_none_iff.1 h)
   exact ⟨f, List.mem_cons_of_mem _ hf, g, hg, e⟩
  ·split at h
   ·obtain ⟨f, hf, g, hg, e⟩ := mrg_none (Option.map_eq_none_iff.1 h)
    exact ⟨f, hf, g, List.mem_cons_of_mem _ hg, e⟩
   ·split at h
    ·obtain ⟨f, hf, g, hg, e⟩ := mrg_none (Option.map_eq_none_iff.1 h)
     exact ⟨f, List.mem_cons_of_mem _ hf, g, List.mem_cons_of_mem _ hg, e⟩
    ·rename_i h1 h2 h3
     exact ⟨x, by simp, y, by simp, by omega, h3⟩
termination_by a b => a.length + b.length
/-- What has the facts of both and is ascending is the union. -/
theorem mrg_uni {a b z : List Fct} (hz : Asc z) (hm : ∀ x, x ∈ z ↔ x ∈ a ∨ x ∈ b) (ha : Asc a) (hb : Asc b) : mrg a b = some z := by
 cases h : mrg a b with
 | none =>
  obtain ⟨f, hf, g, hg, e1, e2⟩ := mrg_none h
  have := asc_uni hz ((hm f).2 (.inl hf)) ((hm g).2 (.inr hg)) e1
  rw [this] at e2
  exact absurd rfl e2
 | some y => rw [asc_ext (mrg_asc h ha hb) hz fun x => (mrg_mem h x).trans (hm x).symm]
theorem mrg_ho {a b z : List Fct} {s : List Int} (h : mrg a b = some z) : hoB z s = true ↔ hoB a s = true ∧ hoB b s = true := by
 rw [ho_iff, ho_iff, ho_iff]
 constructor
 ·intro hz
  exact ⟨fun x hx => hz x ((mrg_mem h x).2 (.inl hx)), fun x hx => hz x ((mrg_mem h x).2 (.inr hx))⟩
 ·rintro ⟨h1, h2⟩ x hx
  rcases (mrg_mem h x).1 hx with hx | hx
  ·exact h1 x hx
  ·exact h2 x hx
theorem mrg_both {a b : List Fct} {s : List Int} (h1 : hoB a s = true) (h2 : hoB b s = true) : ∃ z, mrg a b = some z := by
 cases h : mrg a b with
 | none =>
  obtain ⟨f, hf, g, hg, e1, e2⟩ := mrg_none h
  have h3 := (ho_iff.1 h1 f hf).2.2
  have h4 := (ho_iff.1 h2 g hg).2.2
  rw [e1] at h3
  exact absurd (h3.symm.trans h4) e2
 | some y => exact ⟨y, rfl⟩
theorem mrg_inv {vars : List Int} {a b z : List Fct} (h : mrg a b = some z) (ha : InV vars a) (hb : InV vars b) : InV vars z := fun x hx => by
 rcases (mrg_mem h x).1 hx with h1 | h1
 ·exact ha x h1
 ·exact hb x h1
theorem mrg_fa {vars : List Int} {a b z : List Fct} (h : mrg a b = some z) (ha : faB vars a = true) (hb : faB vars b = true) : faB vars z = true :=
 fa_iff.2 ⟨mrg_asc h (fa_asc ha) (fa_asc hb), mrg_inv h (fa_inv ha) (fa_inv hb)⟩
theorem mrg_left {a b z : List Fct} (h : mrg a b = some z) : Sub a z := fun x hx => (mrg_mem h x).2 (.inl hx)
theorem mrg_right {a b z : List Fct} (h : mrg a b = some z) : Sub b z := fun x hx => (mrg_mem h x).2 (.inr hx)

/-- A further fact at its place. -/
def wiF : List Fct → Fct → List Fct
 | [], f => [f]
 | x :: r, f => if x.1 < f.1 then x :: wiF r f else f :: x :: r
theorem wi_mem {p : List Fct} {f x : Fct} : x ∈ wiF p f ↔ x = f ∨ x ∈ p := by
 induction p with
 | nil => simp [wiF]
 | cons a r ih =>
  unfold wiF
  split
  ·simp only [List.mem_cons, ih]; constructor <;> (intro h; rcases h with h | h | h <;> simp [h])
  ·simp
theorem wi_asc {p : List Fct} {f : Fct} (h : Asc p) (hf : ∀ x, (f.1, x) ∉ p) : Asc (wiF p f) := by
 induction p with
 | nil => exact asc_one f
 | cons a r ih =>
  have h' := List.pairwise_cons.1 h
  unfold wiF
  split
  ·rename_i hlt
   refine List.pairwise_cons.2 ⟨fun u hu => ?_, ih h'.2 fun x hx => hf x (List.mem_cons_of_mem _ hx)⟩
   rcases wi_mem.1 hu with rfl | hu
   ·exact hlt
   ·exact h'.1 u hu
  ·rename_i hlt
   have hne : a.1 ≠ f.1 := fun e => hf a.2 (by rw [← e]; simp)
   refine List.pairwise_cons.2 ⟨fun u hu => ?_, h⟩
   rcases List.mem_cons.1 hu with rfl | hu
   ·omega
   ·have := h'.1 u hu; omega
theorem wi_len (p : List Fct) (f : Fct) : (wiF p f).length = p.length + 1 := by
 induction p with
 | nil => rfl
 | cons a r ih => unfold wiF; split <;> simp [ih]
theorem wi_ho {p : List Fct} {f : Fct} {s : List Int} : hoB (wiF p f) s = true ↔ hoB [f] s = true ∧ hoB p s = true := by
 rw [ho_iff, ho_iff, ho_iff]
 constructor
 ·intro h
  exact ⟨fun x hx => h x (wi_mem.2 (.inl (by simpa using hx))), fun x hx => h x (wi_mem.2 (.inr hx))⟩
 ·rintro ⟨h1, h2⟩ x hx
  rcases wi_mem.1 hx with rfl | hx
  ·exact h1 x (by simp)
  ·exact h2 x hx
end

section
open Go.RowKit
set_option linter.unusedVariables false

def cmpI (a b : Int) : Int := if a < b then -1 else if b < a then 1 else 0
def cmpF (a b : Fct) : Int := if cmpI a.1 b.1 ≠ 0 then cmpI a.1 b.1 else cmpI a.2 b.2
def cmpL : List Fct → List Fct → Int
 | [], [] => 0
 | [], _ :: _ => -1
 | _ :: _, [] => 1
 | x :: a, y :: b => if cmpF x y ≠ 0 then cmpF x y else cmpL a b
theorem cmpI_lt {a b : Int} : cmpI a b < 0 ↔ a < b := by unfold cmpI; split <;> (try split) <;> omega
theorem cmpI_gt {a b : Int} : 0 < cmpI a b ↔ b < a := by unfold cmpI; split <;> (try split) <;> omega
theorem cmpI_eq {a b : Int} : cmpI a b = 0 ↔ a = b := by unfold cmpI; split <;> (try split) <;> omega
theorem cmpF_lt {a b : Fct} : cmpF a b < 0 ↔ a.1 < b.1 ∨ (a.1 = b.1 ∧ a.2 < b.2) := by
 unfold cmpF
 split
 ·rename_i h
  rw [cmpI_lt]; rw [ne_eq, cmpI_eq] at h; omega
 ·rename_i h
  rw [cmpI_lt]; rw [ne_eq, Classical.not_not, cmpI_eq] at h; omega
theorem cmpF_gt {a b : Fct} : 0 < cmpF a b ↔ b.1 < a.1 ∨ (b.1 = a.1 ∧ b.2 < a.2) := by
 unfold cmpF
 split
 ·rename_i h
  rw [cmpI_gt]; rw [ne_eq, cmpI_eq] at h; omega
 ·rename_i h
  rw [cmpI_gt]; rw [ne_eq, Classical.not_not, cmpI_eq] at h; omega
theorem cmpF_eq {a b : Fct} : cmpF a b = 0 ↔ a = b := by
 obtain ⟨a1, a2⟩ := a
 obtain ⟨b1, b2⟩ := b
 unfold cmpF
 rw [Prod.mk.injEq]
 split
 ·rename_i h
  rw [ne_eq, cmpI_eq] at h
  rw [cmpI_eq]
  constructor
  ·intro e; exact absurd e h
  ·intro e; exact absurd e.1 h
 ·rename_i h
  rw [ne_eq, Classical.not_not, cmpI_eq] at h
  rw [cmpI_eq]
  exact ⟨fun e => ⟨h, e⟩, fun e => e.2⟩
theorem cmpL_eq : ∀ {a b : List Fct}, cmpL a b = 0 ↔ a = b
 | [], [] => by simp [cmpL]
 | [], y :: b => by simp [cmpL]
 | x :: a, [] => by simp [cmpL]
 | x :: a, y :: b => by
  unfold cmpL
  split
  ·rename_i h
   constructor
   ·intro e; exact absurd e h
   ·intro e; injection e with e1 e2; exact absurd (cmpF_eq.2 e1) h
  ·rename_i h
   rw [ne_eq, Classical.not_not, cmpF_eq] at h
   rw [cmpL_eq, h]; simp
theorem cmpL_anti : ∀ {a b : List Fct}, cmpL a b < 0 ↔ 0 < cmpL b a
 | [], [] => by simp [cmpL]
 | [], y :: b => by simp [cmpL]
 | x :: a, [] => by simp [cmpL]
 | x :: a, y :: b => by
  unfold cmpL
  have h1 : cmpF x y < 0 ↔ 0 < cmpF y x := by rw [cmpF_lt, cmpF_gt]
  have h2 : cmpF x y = 0 ↔ cmpF y x = 0 := by rw [cmpF_eq, cmpF_eq]; exact eq_comm
  by_cases h : cmpF x y = 0
  ·rw [if_neg (by simpa using h), if_neg (by simpa using h2.1 h)]; exact cmpL_anti
  ·rw [if_pos h, if_pos (fun e => h (h2.2 e))]; exact h1
theorem cmpL_trans : ∀ {a b c : List Fct}, cmpL a b < 0 → cmpL b c < 0 → cmpL a c < 0
 | [], [], c, h, _ => by simp [cmpL] at h
 | [], y :: b, [], _, h => by simp [cmpL] at h
 | [], y :: b, z :: c, _, _ => by simp [cmpL]
 | x :: a, [], c, h, _ => by simp [cmpL] at h
 | x :: a, y :: b, [], _, h => by simp [cmpL] at h
 | x :: a, y :: b, z :: c, h1, h2 => by
  unfold cmpL at *
  by_cases e1 : cmpF x y = 0
  ·rw [if_neg (by simpa using e1)] at h1
   rw [cmpF_eq] at e1
   subst e1
   by_cases e2 : cmpF x z = 0
   ·rw [if_neg (by simpa using e2)] at h2 ⊢
    exact cmpL_trans h1 h2
   ·rw [if_pos e2] at h2 ⊢; exact h2
  ·rw [if_pos e1] at h1
   by_cases e2 : cmpF y z = 0
   ·rw [cmpF_eq] at e2
    subst e2
    rw [if_pos e1]; exact h1
   ·rw [if_pos e2] at h2
    have h3 : cmpF x z < 0 := by rw [cmpF_lt] at *; omega
    rw [if_pos (by omega)]; exact h3
theorem cmpL_tri (a b : List Fct) : cmpL a b < 0 ∨ a = b ∨ cmpL b a < 0 := by
 rcases Int.lt_trichotomy (cmpL a b) 0 with h | h | h
 ·exact .inl h
 ·exact .inr (.inl (cmpL_eq.1 h))
 ·exact .inr (.inr (cmpL_anti.2 h))
theorem cmpL_irr (a : List Fct) : ¬ cmpL a a < 0 := by rw [cmpL_eq.2 rfl]; omega
/-- Strictly ascending lists with the same elements are equal. -/
theorem pw_ext {α : Type} {R : α → α → Prop} (ha : ∀ x y, R x y → R y x → False) : ∀ {a b : List α}, a.Pairwise R → b.Pairwise R → (∀ x, x ∈ a ↔ x ∈ b) → a = b
 | [], [], _, _, _ => rfl
 | [], y :: b, _, _, h => absurd ((h y).2 (by simp)) (by simp)
 | x :: a, [], _, _, h => absurd ((h x).1 (by simp)) (by simp)
 | x :: a, y :: b, h1, h2, h => by
  rw [List.pairwise_cons] at h1 h2
  have hxy : x = y := by
   rcases List.mem_cons.1 ((h x).1 (by simp)) with e | e
   ·exact e
   ·rcases List.mem_cons.1 ((h y).2 (by simp)) with e2 | e2
    ·exact e2.symm
    ·exact (ha _ _ (h2.1 x e) (h1.1 y e2)).elim
  subst hxy
  have hr : ∀ z, z ∈ a ↔ z ∈ b := fun z => by
   constructor
   ·intro hz
    rcases List.mem_cons.1 ((h z).1 (List.mem_cons_of_mem _ hz)) with e | e
    ·subst e; exact (ha _ _ (h1.1 z hz) (h1.1 z hz)).elim
    ·exact e
   ·intro hz
    rcases List.mem_cons.1 ((h z).2 (List.mem_cons_of_mem _ hz)) with e | e
    ·subst e; exact (ha _ _ (h2.1 z hz) (h2.1 z hz)).elim
    ·exact e
  rw [pw_ext ha h1.2 h2.2 hr]
def LtF (a b : Fct) : Prop := cmpF a b < 0
theorem ltF_asymm (a b : Fct) (h1 : LtF a b) (h2 : LtF b a) : False := by unfold LtF at *; rw [cmpF_lt] at *; omega
theorem asc_ltF {p : List Fct} (h : Asc p) : p.Pairwise LtF := by
 unfold Asc at h
 exact h.imp fun {a b} (h : a.1 < b.1) => by unfold LtF; rw [cmpF_lt]; omega
/-- Neighbours that are equal once. -/
def cmpc : List Fct → List Fct
 | [] => []
 | [a] => [a]
 | a :: b :: r => if a = b then cmpc (b :: r) else a :: cmpc (b :: r)
theorem cmpc_mem : ∀ {l : List Fct} {x : Fct}, x ∈ cmpc l ↔ x ∈ l
 | [], x => by simp [cmpc]
 | [a], x => by simp [cmpc]
 | a :: b :: r, x => by
  have ih := cmpc_mem (l := b :: r) (x := x)
  unfold cmpc
  split
  ·rename_i e; subst e
   rw [ih]; simp
  ·rw [List.mem_cons, ih]; simp
/-- Sorted: no later one is less. -/
def SrtF (l : List Fct) : Prop := l.Pairwise fun a b => ¬ cmpF b a < 0
theorem cmpc_pw : ∀ {l : List Fct}, SrtF l → (cmpc l).Pairwise LtF
 | [], _ => List.Pairwise.nil
 | [a], _ => by unfold cmpc; simp
 | a :: b :: r, h => by
  unfold SrtF at h
  rw [List.pairwise_cons] at h
  unfold cmpc
  split
  ·exact cmpc_pw h.2
  ·rename_i hne
   refine List.pairwise_cons.2 ⟨fun x hx => ?_, cmpc_pw h.2⟩
   have hab : LtF a b := by
    have h1 := h.1 b (by simp)
    unfold LtF
    rcases Int.lt_trichotomy (cmpF a b) 0 with h2 | h2 | h2
    ·exact h2
    ·exact absurd (cmpF_eq.1 h2) hne
    ·rw [cmpF_gt] at h2; rw [cmpF_lt] at h1; omega
   rcases List.mem_cons.1 (cmpc_mem.1 hx) with rfl | hx
   ·exact hab
   ·have h3 := (List.pairwise_cons.1 h.2).1 x hx
    unfold LtF at *
    rw [cmpF_lt] at *
    omega
/-- What Make makes of a union: it, or nothing where there is none. -/
theorem make_mrg {a b S : List Fct} (hS : SrtF S) (hp : S.Perm (a ++ b)) (ha : Asc a) (hb : Asc b) (pa : Pos a) (pb : Pos b) : mrg a b = if vaB (cmpc S) then some (cmpc S) else none := by
 have hm : ∀ x, x ∈ cmpc S ↔ x ∈ a ∨ x ∈ b := fun x => by rw [cmpc_mem, hp.mem_iff, List.mem_append]
 split
 ·rename_i h
  exact mrg_uni (va_iff.1 h).1 hm ha hb
 ·rename_i h
  cases e : mrg a b with
  | none => rfl
  | some z =>
   have hz := mrg_asc e ha hb
   have : cmpc S = z := pw_ext ltF_asymm (cmpc_pw hS) (asc_ltF hz) fun x => (hm x).trans (mrg_mem e x).symm
   refine absurd (va_iff.2 ⟨by rw [this]; exact hz, fun x hx => ?_⟩) h
   rcases (hm x).1 hx with h1 | h1
   ·exact pa x h1
   ·exact pb x h1
/-- Sorted lists of partial states. -/
def SrtL (L : List (List Fct)) : Prop := L.Pairwise fun a b => cmpL a b < 0
theorem srtL_ins {L : List (List Fct)} {z : List Fct} {i : Nat} (h : SrtL L) (hi : i ≤ L.length) (hlo : ∀ k, k < i → cmpL (L.getD k []) z < 0) (hhi : ∀ k, i ≤ k → k < L.length → cmpL z (L.getD k []) < 0) : SrtL (L.take i ++ z :: L.drop i) := by
 have ht : (L.take i).Pairwise fun a b => cmpL a b < 0 := h.sublist (List.take_sublist _ _)
 have hd : (L.drop i).Pairwise fun a b => cmpL a b < 0 := h.sublist (List.drop_sublist _ _)
 have h1 : ∀ x ∈ L.take i, cmpL x z < 0 := fun x hx => by
  obtain ⟨k, hk, rfl⟩ := List.mem_iff_getElem.1 hx
  have hk' : k < i := by simp at hk; omega
  have := hlo k hk'
  rw [List.getElem_take]
  rwa [List.getD_eq_getElem?_getD, List.getElem?_eq_getElem (by omega)] at this
 have h2 : ∀ x ∈ L.drop i, cmpL z x < 0 := fun x hx => by
  obtain ⟨k, hk, rfl⟩ := List.mem_iff_getElem.1 hx
  have hk' : i + k < L.length := by simp at hk; omega
  have := hhi (i + k) (by omega) hk'
  rw [List.getElem_drop]
  rwa [List.getD_eq_getElem?_getD, List.getElem?_eq_getElem hk'] at this
 refine List.pairwise_append.2 ⟨ht, List.pairwise_cons.2 ⟨h2, hd⟩, fun x hx y hy => ?_⟩
 rcases List.mem_cons.1 hy with rfl | hy
 ·exact h1 x hx
 ·exact cmpL_trans (h1 x hx) (h2 y hy)
theorem ins_mem {L : List (List Fct)} {z x : List Fct} {i : Nat} : x ∈ L.take i ++ z :: L.drop i ↔ x = z ∨ x ∈ L := by
 rw [List.mem_append, List.mem_cons]
 constructor
 ·rintro (h | h | h)
  ·exact .inr (List.mem_of_mem_take h)
  ·exact .inl h
  ·exact .inr (List.mem_of_mem_drop h)
 ·rintro (h | h)
  ·exact .inr (.inl h)
  ·rw [← List.take_append_drop i L, List.mem_append] at h
   rcases h with h | h
   ·exact .inl h
   ·exact .inr (.inr h)
end

section
open Go Go.RowKit
set_option linter.unusedVariables false

section
variable {w w' : World} {b : Nat} {t : TypeId} {n : Nat} {f g : Nat → Value}
theorem row_below {B : Nat} (h : w.rowIs b t n f) (hb : Below B w w') (hB : b < B) : w'.rowIs b t n f := h.of_block (hb.block b hB)
theorem row_up (h : w.rowIs b t n f) (hb : Below w.heap.size w w') : w'.rowIs b t n f := h.of_block (hb.block b h.lt)
theorem row_grown {row : Option Nat} (h : w.rowIs b t n f) (hg : w.grownBy w' row) (hr : some b ≠ row) : w'.rowIs b t n f := h.of_block (hg.block b h.lt hr)
theorem row_drewN (h : w.rowIs b t n f) (k : Nat) : (w.drewN k).rowIs b t n f := h
/-- A row's cells are a list of numbers. -/
theorem row_ints {l : List Int} (h : w.rowIs b t l.length fun i => .int .i64 (nth l i)) (hl : l.length ≤ 140737488355328) : IntsAt w w.heap.size (some ⟨b, 0, none⟩) l :=
 ⟨hl, fun _ => ⟨b, 0, rfl, h.lt, fun k hk => by simpa using h.cell hk⟩⟩
end

/-- A table of booleans: row j lies in block rb j, its length L j; the slices of the rows in block g. -/
structure MatIs (w : World) (g n : Nat) (rb L : Nat → Nat) (M : Nat → Nat → Bool) : Prop where
 glt : g < w.heap.size
 top : ∀ j, j < n → w.cell? ⟨g, j, none⟩ = some (.slice (some ⟨rb j, 0, none⟩) (L j) (L j))
 row : ∀ j, j < n → w.rowIs (rb j) 4 (L j) fun c => .bool (M j c)
 inj : ∀ i j, i < n → j < n → rb i = rb j → i = j
 ne : ∀ j, j < n → rb j ≠ g
section
variable {w w' : World} {g n : Nat} {rb L : Nat → Nat} {M : Nat → Nat → Bool}
theorem MatIs.of (h : MatIs w g n rb L M) (hs : w.heap.size ≤ w'.heap.size) (hg : w'.heap[g]? = w.heap[g]?) (hr : ∀ j, j < n → w'.heap[rb j]? = w.heap[rb j]?) : MatIs w' g n rb L M :=
 ⟨Nat.lt_of_lt_of_le h.glt hs, fun j hj => (World.cell?_of_block (w := w) (a := ⟨g, j, none⟩) hg).trans (h.top j hj), fun j hj => (h.row j hj).of_block (hr j hj), h.inj, h.ne⟩
theorem MatIs.up (h : MatIs w g n rb L M) (hb : Below w.heap.size w w') : MatIs w' g n rb L M :=
 h.of hb.size (hb.block _ h.glt) fun j hj => hb.block _ (h.row j hj).lt
theorem MatIs.alloc (h : MatIs w g n rb L M) (o : Obj) : MatIs (w.alloc o) g n rb L M := h.up ((Below.refl _ _).alloc (Nat.le_refl _) _)
theorem MatIs.drew (h : MatIs w g n rb L M) : MatIs w.drew g n rb L M := h.up (Below.refl _ _).drew
theorem MatIs.drewN (h : MatIs w g n rb L M) (k : Nat) : MatIs (w.drewN k) g n rb L M := h.up (below_dN (Below.refl _ _) k)
theorem MatIs.grown {r : Option Nat} (h : MatIs w g n rb L M) (hg : w.grownBy w' r) (h0 : some g ≠ r) (h1 : ∀ j, j < n → some (rb j) ≠ r) : MatIs w' g n rb L M :=
 h.of hg.size (hg.block _ h.glt h0) fun j hj => hg.block _ (h.row j hj).lt (h1 j hj)
theorem MatIs.far (h : MatIs w g n rb L M) {p : Addr} (h0 : g ≠ p.block) (h1 : ∀ j, j < n → rb j ≠ p.block) (u : Value) : MatIs (w.setCell p u) g n rb L M :=
 h.of (by simp [World.setCell]) (Below.heap_setCell _ _ _ _ h0) fun j hj => Below.heap_setCell _ _ _ _ (h1 j hj)
theorem MatIs.congr {M' : Nat → Nat → Bool} (h : MatIs w g n rb L M) (e : ∀ j, j < n → ∀ c, c < L j → M j c = M' j c) : MatIs w g n rb L M' :=
 ⟨h.glt, h.top, fun j hj => (h.row j hj).congr fun c hc => by rw [e j hj c hc], h.inj, h.ne⟩
/-- A store into row v. -/
theorem MatIs.put (h : MatIs w g n rb L M) {v u : Nat} (hv : v < n) (x : Bool) : MatIs (w.setCell ⟨rb v, u, none⟩ (.bool x)) g n rb L (fun j c => if j = v ∧ c = u then x else M j c) :=
 ⟨by simpa [World.setCell] using h.glt, fun j hj => (World.cell?_setCell_other _ _ _ _ (fun e => h.ne v hv (congrArg Addr.block e))).trans (h.top j hj), fun j hj => by
  by_cases e : j = v
  ·subst e
   exact ((h.row j hj).set u _).congr fun c hc => by by_cases e : c = u <;> simp [e]
  ·exact ((h.row j hj).setOther (fun e2 => e (h.inj j v hj hv e2)) _).congr fun c hc => by simp [e], h.inj, h.ne⟩
theorem MatIs.put_true (h : MatIs w g n rb L M) {v u : Nat} (hv : v < n) {M' : Nat → Nat → Bool} (e : ∀ j, j < n → ∀ c, c < L j → (M j c || (j == v && c == u)) = M' j c) : MatIs (w.setCell ⟨rb v, u, none⟩ (.bool true)) g n rb L M' :=
 (h.put hv true).congr fun j hj c hc => by
  rw [← e j hj c hc]
  by_cases e1 : j = v <;> by_cases e2 : c = u <;> simp [e1, e2]
theorem MatIs.cell (h : MatIs w g n rb L M) {v u : Nat} (hv : v < n) (hu : u < L v) : w.cell? ⟨rb v, u, none⟩ = some (.bool (M v u)) := (h.row v hv).cell hu
theorem MatIs.frozen (h : MatIs w g n rb L M) {v : Nat} (u : Nat) (hv : v < n) : w.frozen? ⟨rb v, u, none⟩ = false := (h.row v hv).frozen u
theorem MatIs.rlt (h : MatIs w g n rb L M) {v : Nat} (hv : v < n) : rb v < w.heap.size := (h.row v hv).lt
end
theorem infoB : (Tryz.prog.info? 4).map (fun i => (i.zero, i.size, i.bytes)) = some (some (.bool false), 1, 1) := by kernel_rfl
theorem infoBs : (Tryz.prog.info? 74).map (fun i => (i.zero, i.size, i.bytes)) = some (some (.slice none 0 0), 1, 24) := by kernel_rfl
end

section
open Go Go.RowKit
set_option linter.unusedVariables false

section
variable {w w1 wr : World} {B : Nat} {e : TypeId} {s : Nat} {v : Value} {n : Nat} {xs : List Value}
theorem own_below (h : wr.ownsRow B e s v n xs) (hb : Below wr.heap.size wr w1) : w1.ownsRow B e s v n xs :=
 h.kept (row := none) ⟨hb.os, hb.tape, hb.output, hb.size, fun k hk _ => hb.block k hk⟩ (by cases v.ownBlock <;> simp)
theorem own_built (w : World) (cur : Array Value) (n : Nat) (hb : B ≤ w.heap.size) (hm : n ≤ maxLen) (hs : cur.size = n * s) : (w.alloc (.cells cur e)).ownsRow B e s (.slice (some ⟨w.heap.size, 0, none⟩) n n) n cur.toList :=
 ⟨by simpa using hs, .inr ⟨w.heap.size, n, cur, rfl, hb, heap_alloc_new w _, Nat.le_refl _, hm, hs, by rw [← hs, show cur.size = cur.toList.length by simp, List.take_length]⟩⟩
theorem grown_below2 {w : World} (hb : Below B w wr) (hB : B ≤ w.heap.size) (ho : wr.ownsRow B e s v n xs) (hg : wr.grownBy w1 v.ownBlock) : Below B w w1 :=
 hb.grown hg (Nat.le_trans hB hb.size) fun k hk => (ho.lt k hk).1
theorem own_ne {w : World} (h : w.ownsRow B e s v n xs) {g : Nat} (hg : w.heap.size ≤ g) : v.ownBlock = none ∨ v.ownBlock ≠ some g := by
 cases hv : v.ownBlock with
 | none => exact .inl rfl
 | some k => refine .inr fun hh => ?_; have := (h.lt k hv).2; cases hh; omega
theorem two_one {x y : Value} (h0 : x.oneCell' = true) (h1 : y.oneCell' = true) : ∀ u ∈ [x, y], u.oneCell' = true := by intro u hu; simp at hu; rcases hu with rfl | rfl <;> assumption
theorem one_one {x : Value} (h0 : x.oneCell' = true) : ∀ u ∈ [x], u.oneCell' = true := by intro u hu; simp at hu; subst hu; assumption
theorem three_one {x y z : Value} (h0 : x.oneCell' = true) (h1 : y.oneCell' = true) (h2 : z.oneCell' = true) : ∀ u ∈ [x, y, z], u.oneCell' = true := by intro u hu; simp at hu; rcases hu with rfl | rfl | rfl <;> assumption
/-- Blocks of different element types are different. -/
theorem row_own_ne {w : World} {b : Nat} {t : TypeId} {m : Nat} {f : Nat → Value} (hr : w.rowIs b t m f) (h : w.ownsRow B e s v n xs) (hne : t ≠ e) : some b ≠ v.ownBlock := by
 obtain ⟨c, hb, _⟩ := hr
 rcases h.2 with ⟨rfl, _⟩ | ⟨g, cap, cur, rfl, _, hg, _⟩
 ·simp [Value.ownBlock]
 ·intro he
  have : g = b := by simpa [Value.ownBlock] using he.symm
  subst this
  rw [hb] at hg
  injection hg with hg
  injection hg with _ ht
  exact hne ht
end

section
variable {P : Program} {w : World}
/-- The cells of a block that is known whole. -/
theorem cells_of_block {H : Nat} {news : List Value} {T : TypeId} (h : w.heap[H]? = some (.cells news.toArray T (0, 0))) : ∀ j u, news[j]? = some u → w.cell? ((⟨H, 0, none⟩ : Addr).add j) = some u := by
 intro j u hu
 have h1 := cell_of_row w H j news.toArray T (0, 0) h
 rw [show news.toArray[j]? = news[j]? by simp, hu] at h1
 simp only [Addr.add]
 split
 ·rename_i h0; subst h0; exact h1
 ·rw [Nat.zero_add]; exact h1
/-- append of one element, laid into a block of its own, to a row of the call's own. -/
theorem wpList_push {ops : Array Oper} {rest : List Oper} {o : Oper} {a : Act} {Q : Exit → Act → World → Prop} (hgd : o.guard = .none) (s x : Operand) (t : TypeId)
  (ho : o.op = .call { callee := .builtin .append, args := #[s, x], argTypes := #[t, t] })
  (base : Nat) (e : TypeId) (i : TypeInfo) (z : Value) (size bytes : Nat) (ht : P.underlying t = some (.slice e)) (hi : P.info? e = some i) (hz : i.zero = some z)
  (hsize : i.size = size) (hby : i.bytes = bytes) (hzs : z.cells.size = size) (hsz : 0 < size) (hbs : bytes ≤ 1000)
  (v : Value) (n : Nat) (xs : List Value) (hs : a.eval s = v) (hown : w.ownsRow base e size v n xs)
  (H : Nat) (T : TypeId) (news : List Value) (hx : a.eval x = .slice (some ⟨H, 0, none⟩) 1 1) (hl : news.length = size) (hH : w.heap[H]? = some (.cells news.toArray T (0, 0))) (h1 : ∀ u ∈ news, u.oneCell' = true)
  (hn : n ≤ 10000000) (hbase : base ≤ w.heap.size) {W : World} {B : Nat} (hB : Below B W w) (hBb : B ≤ base)
  (h : ∀ v' w', w'.ownsRow base e size v' (n + 1) (xs ++ news) → w.grownBy w' v.ownBlock → (v'.ownBlock = v.ownBlock ∨ v'.ownBlock = some w.heap.size) → Below B W w' → wpList P ops Q rest (a.put o.dst v') w') :
  wpList P ops Q (o :: rest) a w := by
 have hn1 : (n + 1) * bytes ≤ 140737488355328 := Nat.le_trans (Nat.mul_le_mul (show n + 1 ≤ 10000001 by omega) hbs) (by decide)
 refine wpList_append_own_at w hgd s x t ho base e i z size bytes ht hi hz hsize hby hzs hsz v n xs hs hown ⟨H, 0, none⟩ 1 1 news hx (by rw [hl, Nat.one_mul]) (cells_of_block hH) h1 (by unfold maxLen; omega) hn1 hbase ?_
 intro v' w' h2 h3 _ h5
 exact h v' w' h2 h3 h5 (hB.grown h3 (by omega) fun k hk => Nat.le_trans hBb ((hown.lt k hk).1))
end

/-- A slice of fractions as a result. -/
def GotFs (w : World) (v : Value) (l : List (Int × Int)) : Prop := ∃ A c, v = .slice A l.length c ∧ (A = none → c = 0) ∧ FactsAt w w.heap.size A l
theorem gotFs_nil (w : World) : GotFs w (.slice none 0 0) [] := ⟨none, 0, rfl, fun _ => rfl, by simp, fun h => absurd h (by simp)⟩
def RetFs (l : List (Int × Int)) (cv : Value) (w : World) (e : Ending) (w' : World) : Prop := (∃ v, e = .returned (.tuple #[v, cv]) ∧ GotFs w' v l) ∧ Below w.heap.size w w'
end

section
open Go.RowKit

/-- A slice whose cells hold the values news (size cells an element). -/
structure SrcAt (w : World) (A : Option Addr) (m c size : Nat) (news : List Value) : Prop where
 none : A = none → m = 0 ∧ c = 0
 len : news.length = m * size
 cells : ∀ ad, A = some ad → ∀ j u, news[j]? = some u → w.cell? (ad.add j) = some u
 one : ∀ u ∈ news, u.oneCell' = true

section
variable {P : Program} {w : World}
theorem grown_refl (row : Option Nat) : w.grownBy w row := ⟨rfl, rfl, rfl, Nat.le_refl _, fun _ _ _ => rfl⟩

theorem wp_append_src {o : Oper} {a : Act} {K : Act → World → Prop} {Q : Exit → Act → World → Prop} (s x : Operand) (t : TypeId)
  (ho : o.op = .call { callee := .builtin .append, args := #[s, x], argTypes := #[t, t] })
  (base : Nat) (e : TypeId) (i : TypeInfo) (z : Value) (size bytes : Nat) (ht : P.underlying t = some (.slice e)) (hi : P.info? e = some i) (hz : i.zero = some z)
  (hsize : i.size = size) (hby : i.bytes = bytes) (hzs : z.cells.size = size) (hsz : 0 < size)
  (v : Value) (n : Nat) (xs : List Value) (hs : a.eval s = v) (hown : w.ownsRow base e size v n xs)
  (A : Option Addr) (m c : Nat) (news : List Value) (hx : a.eval x = .slice A m c) (hsrc : SrcAt w A m c size news)
  (h63 : n + m ≤ maxLen) (hbytes : (n + m) * bytes ≤ 140737488355328) (hbase : base ≤ w.heap.size)
  (h : ∀ v' w', w'.ownsRow base e size v' (n + m) (xs ++ news) → w.grownBy w' v.ownBlock → (v'.ownBlock = v.ownBlock ∨ v'.ownBlock = some w.heap.size) → K (a.put o.dst v') w') : o.wp P a w K Q := by
 cases A with
 | none =>
  obtain ⟨rfl, rfl⟩ := hsrc.none rfl
  have hn : news = [] := List.length_eq_zero_iff.1 (by rw [hsrc.len]; simp)
  subst hn
  have hr := run_append_owned_none (P := P) (w := w) base t o.type e i size ht hi v n xs hown
  unfold Oper.wp execOp
  simp only [ho, resolve, invoke, builtin, Sem.run_bind, Sem.run_pure, Result.andThen_ok, List.map_toArray, List.map_cons, List.map_nil, hs, hx, hr]
  exact h v w (by simpa using hown) (grown_refl _) (.inl rfl)
 | some ad =>
  obtain ⟨v', w', hr, h2, h3, _, h5⟩ := run_append_own_at (P := P) w base t o.type e i z size bytes ht hi hz hsize hby hzs hsz v n xs hown ad m c news hsrc.len (hsrc.cells ad rfl) hsrc.one h63 hbytes hbase
  unfold Oper.wp execOp
  simp only [ho, resolve, invoke, builtin, Sem.run_bind, Sem.run_pure, Result.andThen_ok, List.map_toArray, List.map_cons, List.map_nil, hs, hx, hr]
  exact h v' w' h2 h3 h5

theorem wpList_append_src {ops : Array Oper} {rest : List Oper} {o : Oper} {a : Act} {Q : Exit → Act → World → Prop} (hgd : o.guard = .none) (s x : Operand) (t : TypeId)
  (ho : o.op = .call { callee := .builtin .append, args := #[s, x], argTypes := #[t, t] })
  (base : Nat) (e : TypeId) (i : TypeInfo) (z : Value) (size bytes : Nat) (ht : P.underlying t = some (.slice e)) (hi : P.info? e = some i) (hz : i.zero = some z)
  (hsize : i.size = size) (hby : i.bytes = bytes) (hzs : z.cells.size = size) (hsz : 0 < size)
  (v : Value) (n : Nat) (xs : List Value) (hs : a.eval s = v) (hown : w.ownsRow base e size v n xs)
  (A : Option Addr) (m c : Nat) (news : List Value) (hx : a.eval x = .slice A m c) (hsrc : SrcAt w A m c size news)
  (h63 : n + m ≤ maxLen) (hbytes : (n + m) * bytes ≤ 140737488355328) (hbase : base ≤ w.heap.size)
  (h : ∀ v' w', w'.ownsRow base e size v' (n + m) (xs ++ news) → w.grownBy w' v.ownBlock → (v'.ownBlock = v.ownBlock ∨ v'.ownBlock = some w.heap.size) → wpList P ops Q rest (a.put o.dst v') w') :
  wpList P ops Q (o :: rest) a w :=
 wpList_plain hgd fun _ hK => wp_append_src s x t ho base e i z size bytes ht hi hz hsize hby hzs hsz v n xs hs hown A m c news hx hsrc h63 hbytes hbase fun v' w' h2 h3 h4 => hK _ _ (h v' w' h2 h3 h4)

theorem step_append_src {ops : Array Oper} {o : Oper} {a : Act} {K : Act → World → Prop} {Q : Exit → Act → World → Prop} {E : Prop} (hgd : o.guard = .none) (s x : Operand) (t : TypeId)
  (ho : o.op = .call { callee := .builtin .append, args := #[s, x], argTypes := #[t, t] })
  (base : Nat) (e : TypeId) (i : TypeInfo) (z : Value) (size bytes : Nat) (ht : P.underlying t = some (.slice e)) (hi : P.info? e = some i) (hz : i.zero = some z)
  (hsize : i.size = size) (hby : i.bytes = bytes) (hzs : z.cells.size = size) (hsz : 0 < size)
  (v : Value) (n : Nat) (xs : List Value) (hs : a.eval s = v) (hown : w.ownsRow base e size v n xs)
  (A : Option Addr) (m c : Nat) (news : List Value) (hx : a.eval x = .slice A m c) (hsrc : SrcAt w A m c size news)
  (h63 : n + m ≤ maxLen) (hbytes : (n + m) * bytes ≤ 140737488355328) (hbase : base ≤ w.heap.size)
  (h : ∀ v' w', w'.ownsRow base e size v' (n + m) (xs ++ news) → w.grownBy w' v.ownBlock → (v'.ownBlock = v.ownBlock ∨ v'.ownBlock = some w.heap.size) → K (a.put o.dst v') w') :
  if Region.wanted o (yielded ops a.tmps) = true then Oper.wp P o a w K Q else E := by
 have hw : Region.wanted o (yielded ops a.tmps) = true := by simp [Region.wanted, hgd]
 rw [if_pos hw]
 exact wp_append_src s x t ho base e i z size bytes ht hi hz hsize hby hzs hsz v n xs hs hown A m c news hx hsrc h63 hbytes hbase h
end

/-- Numbers as a source. -/
theorem ints_srcAt {w : World} {B : Nat} {A : Option Addr} {l : List Int} {c : Nat} (h : IntsAt w B A l) (hA : A = none → c = 0) : SrcAt w A l.length c 1 (l.map (.int .i64)) where
 none := fun e => by
  refine ⟨?_, hA e⟩
  rcases Nat.eq_zero_or_pos l.length with h0 | h0
  ·exact h0
  ·obtain ⟨b, off, e2, _⟩ := h.2 h0; rw [e] at e2; cases e2
 len := by simp
 cells := fun ad e j u hj => by
  have hlt : j < l.length := by have := (List.getElem?_eq_some_iff.1 hj).1; simpa using this
  obtain ⟨b, off, e2, _, hc⟩ := h.2 (by omega)
  rw [e] at e2
  cases e2
  have h1 := hc j hlt
  have h2 : u = .int .i64 (nth l j) := by
   rw [List.getElem?_map, List.getElem?_eq_getElem hlt] at hj
   cases hj
   unfold nth
   simp [List.getD, List.getElem?_eq_getElem hlt]
  subst h2
  simp [Addr.add]
  split
  ·rename_i h0; subst h0; simpa using h1
  ·simpa using h1
 one := fun u hu => by simp at hu; obtain ⟨x, _, rfl⟩ := hu; rfl
end

section
open Go Go.RowKit
set_option linter.unusedVariables false

def Fac (w : World) (bad : Nat → Prop) (A : Option Addr) (l : List (Int × Int)) : Prop :=
 l.length ≤ 140737488355328 ∧ (0 < l.length → ∃ b off, A = some ⟨b, off, none⟩ ∧ b < w.heap.size ∧ ¬ bad b ∧ ∀ k, k < l.length → w.cell? ⟨b, off + k * 2, none⟩ = some (.int .i64 (fv l k)) ∧ w.cell? ⟨b, off + k * 2 + 1, none⟩ = some (.int .i64 (fx l k)))
/-- Effects, their conditions too. -/
def Efs (w : World) (bad : Nat → Prop) (A : Option Addr) (l : List Eff) : Prop :=
 l.length ≤ 140737488355328 ∧ (0 < l.length → ∃ b off, A = some ⟨b, off, none⟩ ∧ b < w.heap.size ∧ ¬ bad b ∧ ∀ k, k < l.length → ∃ S c,
  w.cell? ⟨b, off + k * 3, none⟩ = some (.slice S (eff l k).whn.length c) ∧ Fac w bad S (eff l k).whn ∧
  w.cell? ⟨b, off + k * 3 + 1, none⟩ = some (.int .i64 (eff l k).var) ∧ w.cell? ⟨b, off + k * 3 + 2, none⟩ = some (.int .i64 (eff l k).val))
/-- The cells of a row of effects, of operators. -/
def EfIs (w : World) (bad : Nat → Prop) (xs : List Value) (l : List Eff) : Prop :=
 xs.length = l.length * 3 ∧ ∀ k, k < l.length → ∃ S c, xs[k * 3]? = some (.slice S (eff l k).whn.length c) ∧ Fac w bad S (eff l k).whn ∧ xs[k * 3 + 1]? = some (.int .i64 (eff l k).var) ∧ xs[k * 3 + 2]? = some (.int .i64 (eff l k).val)
def OpIs (w : World) (bad : Nat → Prop) (xs : List Value) (l : List Opr) : Prop :=
 xs.length = l.length * 4 ∧ ∀ k, k < l.length → ∃ S c T d, xs[k * 4]? = some (.string (opr l k).name) ∧ (opr l k).name.size ≤ 140737488355328 ∧ xs[k * 4 + 1]? = some (.int .i64 (opr l k).cost) ∧
  xs[k * 4 + 2]? = some (.slice S (opr l k).pre.length c) ∧ Fac w bad S (opr l k).pre ∧ xs[k * 4 + 3]? = some (.slice T (opr l k).effs.length d) ∧ Efs w bad T (opr l k).effs

section
variable {w w' : World} {bad bad' : Nat → Prop} {A : Option Addr}
/-- Blocks that lie at good places are kept; what is bad then was bad. -/
structure Moves (w w' : World) (bad bad' : Nat → Prop) : Prop where
 size : w.heap.size ≤ w'.heap.size
 block : ∀ b, b < w.heap.size → ¬ bad b → w'.heap[b]? = w.heap[b]?
 bad : ∀ b, b < w.heap.size → bad' b → bad b
theorem Moves.cell (h : Moves w w' bad bad') {p : Addr} (hp : p.block < w.heap.size) (hb : ¬ bad p.block) : w'.cell? p = w.cell? p := World.cell?_of_block (w := w) (h.block _ hp hb)
theorem Moves.up (hb : Below w.heap.size w w') : Moves w w' bad bad := ⟨hb.size, fun b h _ => hb.block b h, fun _ _ h => h⟩
theorem Moves.grown {row : Option Nat} (hg : w.grownBy w' row) (hr : ∀ b, row = some b → bad b) (hb : ∀ b, b < w.heap.size → bad' b → bad b) : Moves w w' bad bad' :=
 ⟨hg.size, fun b h hn => hg.block b h fun e => hn (hr b e.symm), hb⟩
theorem Moves.set {p : Addr} (u : Value) (hp : bad p.block) : Moves w (w.setCell p u) bad bad :=
 ⟨by simp [World.setCell], fun b h hn => Below.heap_setCell _ _ _ _ (fun e => hn (by rw [e]; exact hp)), fun _ _ h => h⟩
theorem Moves.mono (hb : ∀ b, b < w.heap.size → bad' b → bad b) : Moves w w bad bad' := ⟨Nat.le_refl _, fun _ _ _ => rfl, hb⟩
theorem Moves.trans {w'' : World} {bad'' : Nat → Prop} (h : Moves w w' bad bad') (k : Moves w' w'' bad' bad'') : Moves w w'' bad bad'' :=
 ⟨Nat.le_trans h.size k.size, fun b hb hn => (k.block b (Nat.lt_of_lt_of_le hb h.size) fun h2 => hn (h.bad b hb h2)).trans (h.block b hb hn), fun b hb hn => h.bad b hb (k.bad b (Nat.lt_of_lt_of_le hb h.size) hn)⟩
theorem Fac.move {l : List (Int × Int)} (h : Fac w bad A l) (m : Moves w w' bad bad') : Fac w' bad' A l :=
 ⟨h.1, fun hn => by
  obtain ⟨b, off, e, hb, hx, hc⟩ := h.2 hn
  exact ⟨b, off, e, Nat.lt_of_lt_of_le hb m.size, fun h2 => hx (m.bad b hb h2), fun k hk => ⟨(m.cell (p := ⟨b, _, none⟩) hb hx).trans (hc k hk).1, (m.cell (p := ⟨b, _, none⟩) hb hx).trans (hc k hk).2⟩⟩⟩
theorem Efs.move {l : List Eff} (h : Efs w bad A l) (m : Moves w w' bad bad') : Efs w' bad' A l :=
 ⟨h.1, fun hn => by
  obtain ⟨b, off, e, hb, hx, hc⟩ := h.2 hn
  refine ⟨b, off, e, Nat.lt_of_lt_of_le hb m.size, fun h2 => hx (m.bad b hb h2), fun k hk => ?_⟩
  obtain ⟨S, c, h1, h2, h3, h4⟩ := hc k hk
  exact ⟨S, c, (m.cell (p := ⟨b, _, none⟩) hb hx).trans h1, h2.move m, (m.cell (p := ⟨b, _, none⟩) hb hx).trans h3, (m.cell (p := ⟨b, _, none⟩) hb hx).trans h4⟩⟩
theorem EfIs.move {xs : List Value} {l : List Eff} (h : EfIs w bad xs l) (m : Moves w w' bad bad') : EfIs w' bad' xs l :=
 ⟨h.1, fun k hk => by
  obtain ⟨S, c, h1, h2, h3, h4⟩ := h.2 k hk
  exact ⟨S, c, h1, h2.move m, h3, h4⟩⟩
theorem OpIs.move {xs : List Value} {l : List Opr} (h : OpIs w bad xs l) (m : Moves w w' bad bad') : OpIs w' bad' xs l :=
 ⟨h.1, fun k hk => by
  obtain ⟨S, c, T, d, h1, h2, h3, h4, h5, h6, h7⟩ := h.2 k hk
  exact ⟨S, c, T, d, h1, h2, h3, h4, h5.move m, h6, h7.move m⟩⟩
theorem Fac.at_ {l : List (Int × Int)} (h : Fac w bad A l) : FactsAt w w.heap.size A l :=
 ⟨h.1, fun hn => by
  obtain ⟨b, off, e, hb, hx, hc⟩ := h.2 hn
  exact ⟨b, off, e, hb, hc⟩⟩
theorem Efs.at_ {l : List Eff} (h : Efs w bad A l) : EffsAt w w.heap.size A l :=
 ⟨h.1, fun hn => by
  obtain ⟨b, off, e, hb, hx, hc⟩ := h.2 hn
  refine ⟨b, off, e, hb, fun k hk => ?_⟩
  obtain ⟨S, c, h1, h2, h3, h4⟩ := hc k hk
  exact ⟨S, c, h1, h2.at_, h3, h4⟩⟩
theorem EfIs.nil (w : World) (bad : Nat → Prop) : EfIs w bad [] [] := ⟨rfl, fun k hk => absurd hk (by simp)⟩
theorem OpIs.nil (w : World) (bad : Nat → Prop) : OpIs w bad [] [] := ⟨rfl, fun k hk => absurd hk (by simp)⟩
theorem eff_app {l m : List Eff} {k : Nat} (h : k < l.length) : eff (l ++ m) k = eff l k := by unfold eff; simp [List.getD, List.getElem?_append_left h]
theorem eff_last {l : List Eff} {e : Eff} : eff (l ++ [e]) l.length = e := by unfold eff; simp [List.getD]
theorem opr_app {l m : List Opr} {k : Nat} (h : k < l.length) : opr (l ++ m) k = opr l k := by unfold opr; simp [List.getD, List.getElem?_append_left h]
theorem opr_last {l : List Opr} {e : Opr} : opr (l ++ [e]) l.length = e := by unfold opr; simp [List.getD]
theorem get_app {xs ys : List Value} {i : Nat} {u : Value} (h : xs[i]? = some u) : (xs ++ ys)[i]? = some u := by
 rw [List.getElem?_append_left (List.getElem?_eq_some_iff.1 h).1]; exact h
theorem EfIs.push {xs : List Value} {l : List Eff} (h : EfIs w bad xs l) {S : Option Addr} {c : Nat} {e : Eff} (hf : Fac w bad S e.whn) :
  EfIs w bad (xs ++ [.slice S e.whn.length c, .int .i64 e.var, .int .i64 e.val]) (l ++ [e]) := by
 refine ⟨by rw [List.length_append, List.length_append, h.1]; simp; omega, fun k hk => ?_⟩
 rw [List.length_append] at hk
 by_cases hlt : k < l.length
 ·obtain ⟨S', c', h1, h2, h3, h4⟩ := h.2 k hlt
  rw [eff_app hlt]
  exact ⟨S', c', get_app h1, h2, get_app h3, get_app h4⟩
 ·have : k = l.length := by simp at hk; omega
  subst this
  rw [eff_last]
  refine ⟨S, c, ?_, hf, ?_, ?_⟩
  ·rw [← h.1, List.getElem?_append_right (Nat.le_refl _), Nat.sub_self]; rfl
  ·rw [← h.1, List.getElem?_append_right (by omega), Nat.add_sub_cancel_left]; rfl
  ·rw [← h.1, List.getElem?_append_right (by omega), Nat.add_sub_cancel_left]; rfl
theorem OpIs.push {xs : List Value} {l : List Opr} (h : OpIs w bad xs l) {S T : Option Addr} {c d : Nat} {o : Opr} (hs : o.name.size ≤ 140737488355328) (hf : Fac w bad S o.pre) (he : Efs w bad T o.effs) :
  OpIs w bad (xs ++ [.string o.name, .int .i64 o.cost, .slice S o.pre.length c, .slice T o.effs.length d]) (l ++ [o]) := by
 refine ⟨by rw [List.length_append, List.length_append, h.1]; simp; omega, fun k hk => ?_⟩
 rw [List.length_append] at hk
 by_cases hlt : k < l.length
 ·obtain ⟨S', c', T', d', h1, h2, h3, h4, h5, h6, h7⟩ := h.2 k hlt
  rw [opr_app hlt]
  exact ⟨S', c', T', d', get_app h1, h2, get_app h3, get_app h4, h5, get_app h6, h7⟩
 ·have : k = l.length := by simp at hk; omega
  subst this
  rw [opr_last]
  refine ⟨S, c, T, d, ?_, hs, ?_, ?_, hf, ?_, he⟩
  ·rw [← h.1, List.getElem?_append_right (Nat.le_refl _), Nat.sub_self]; rfl
  ·rw [← h.1, List.getElem?_append_right (by omega), Nat.add_sub_cancel_left]; rfl
  ·rw [← h.1, List.getElem?_append_right (by omega), Nat.add_sub_cancel_left]; rfl
  ·rw [← h.1, List.getElem?_append_right (by omega), Nat.add_sub_cancel_left]; rfl
theorem own_cell {B s n : Nat} {e : TypeId} {g cap : Nat} {xs : List Value} (h : w.ownsRow B e s (.slice (some ⟨g, 0, none⟩) n cap) n xs) {i : Nat} {u : Value} (hi : xs[i]? = some u) : w.cell? ⟨g, i, none⟩ = some u := by
 rcases h.2 with ⟨h0, _⟩ | ⟨b, cap', cur, h1, hb, hg, hnc, hcm, hcs, htk⟩
 ·cases h0
 ·injection h1 with h1 _ _
  injection h1 with h1
  injection h1 with h1 _ _
  subst h1
  rw [cell_of_row w g i cur e (0, 0) hg]
  rw [← htk, List.getElem?_take] at hi
  split at hi
  ·simpa using hi
  ·cases hi
theorem own_view {B s n : Nat} {e : TypeId} {v : Value} {xs : List Value} (h : w.ownsRow B e s v n xs) : (v = .slice none 0 0 ∧ n = 0) ∨ ∃ g cap, v = .slice (some ⟨g, 0, none⟩) n cap ∧ B ≤ g ∧ g < w.heap.size := by
 rcases h.2 with ⟨rfl, h0⟩ | ⟨b, cap, cur, rfl, hb, hg, _⟩
 ·exact .inl ⟨rfl, h0⟩
 ·exact .inr ⟨b, cap, rfl, hb, (Array.getElem?_eq_some_iff.1 hg).1⟩
/-- A row of the call's own, seen as effects: also its block is at a good place. -/
theorem EfIs.efs {B : Nat} {v : Value} {xs : List Value} {l : List Eff} {e : TypeId} (h : EfIs w bad xs l) (ho : w.ownsRow B e 3 v l.length xs) (hl : l.length ≤ 140737488355328) (hb : ∀ g, B ≤ g → g < w.heap.size → ¬ bad g) :
  ∃ A c, v = .slice A l.length c ∧ (A = none → c = 0) ∧ Efs w bad A l := by
 rcases own_view ho with ⟨rfl, h0⟩ | ⟨g, cap, rfl, hg1, hg2⟩
 ·exact ⟨none, 0, by rw [h0], fun _ => rfl, hl, fun hn => absurd hn (by omega)⟩
 ·refine ⟨some ⟨g, 0, none⟩, cap, rfl, (fun e => nomatch e), hl, fun _ => ⟨g, 0, rfl, hg2, hb g hg1 hg2, fun k hk => ?_⟩⟩
  obtain ⟨S, c, h1, h2, h3, h4⟩ := h.2 k hk
  refine ⟨S, c, ?_, h2, ?_, ?_⟩
  ·have := own_cell ho h1; simpa using this
  ·have := own_cell ho h3; simpa using this
  ·have := own_cell ho h4; simpa using this
theorem OpIs.ops {B : Nat} {v : Value} {xs : List Value} {l : List Opr} {e : TypeId} (h : OpIs w bad xs l) (ho : w.ownsRow B e 4 v l.length xs) (hl : l.length ≤ 140737488355328) :
  ∃ A c, v = .slice A l.length c ∧ (A = none → c = 0) ∧ OpsAt w w.heap.size A l := by
 rcases own_view ho with ⟨rfl, h0⟩ | ⟨g, cap, rfl, hg1, hg2⟩
 ·exact ⟨none, 0, by rw [h0], fun _ => rfl, hl, fun hn => absurd hn (by omega)⟩
 ·refine ⟨some ⟨g, 0, none⟩, cap, rfl, (fun e => nomatch e), hl, fun _ => ⟨g, 0, rfl, hg2, fun k hk => ?_⟩⟩
  obtain ⟨S, c, T, d, h1, h2, h3, h4, h5, h6, h7⟩ := h.2 k hk
  refine ⟨S, c, T, d, ?_, h2, ?_, ?_, h5.at_, ?_, h7.at_⟩
  ·have := own_cell ho h1; simpa using this
  ·have := own_cell ho h3; simpa using this
  ·have := own_cell ho h4; simpa using this
  ·have := own_cell ho h6; simpa using this
/-- A row of facts of the call's own. -/
def fcl (l : List (Int × Int)) : List Value := l.flatMap fun f => [.int .i64 f.1, .int .i64 f.2]
theorem fcl_get : ∀ (l : List (Int × Int)) (k : Nat), k < l.length → (fcl l)[k * 2]? = some (.int .i64 (fv l k)) ∧ (fcl l)[k * 2 + 1]? = some (.int .i64 (fx l k))
 | f :: l, 0, _ => ⟨rfl, rfl⟩
 | f :: l, k + 1, h => by
  obtain ⟨h1, h2⟩ := fcl_get l k (by simp at h; omega)
  have e : fcl (f :: l) = .int .i64 f.1 :: .int .i64 f.2 :: fcl l := rfl
  rw [e, show (k + 1) * 2 = k * 2 + 1 + 1 by omega]
  exact ⟨h1, h2⟩
theorem fcl_app (a b : List (Int × Int)) : fcl (a ++ b) = fcl a ++ fcl b := by unfold fcl; rw [List.flatMap_append]
theorem own_fac {B n : Nat} {v : Value} {l : List (Int × Int)} {e : TypeId} (ho : w.ownsRow B e 2 v n (fcl l)) (hn : n = l.length) (hl : l.length ≤ 140737488355328) (hb : ∀ g, B ≤ g → g < w.heap.size → ¬ bad g) :
  ∃ A c, v = .slice A l.length c ∧ (A = none → c = 0) ∧ Fac w bad A l := by
 subst hn
 rcases own_view ho with ⟨rfl, h0⟩ | ⟨g, cap, rfl, hg1, hg2⟩
 ·exact ⟨none, 0, by rw [h0], fun _ => rfl, hl, fun hn => absurd hn (by omega)⟩
 ·refine ⟨some ⟨g, 0, none⟩, cap, rfl, (fun e => nomatch e), hl, fun _ => ⟨g, 0, rfl, hg2, hb g hg1 hg2, fun k hk => ?_⟩⟩
  have h1 := own_cell ho (fcl_get l k hk).1
  have h2 := own_cell ho (fcl_get l k hk).2
  exact ⟨by simpa using h1, by simpa using h2⟩
end
end

section
open Go Go.RowKit
set_option linter.unusedVariables false

theorem own_shape {W : World} {B s n : Nat} {e : TypeId} {v : Value} {xs : List Value} (h : W.ownsRow B e s v n xs) : ∃ A c, v = .slice A n c := by
 rcases h.2 with ⟨rfl, h0⟩ | ⟨b, cap, cur, rfl, hb, hg, hh⟩
 ·exact ⟨none, 0, by rw [h0]⟩
 ·exact ⟨some ⟨b, 0, none⟩, cap, rfl⟩
theorem own_set {W : World} {B s n : Nat} {e : TypeId} {v u : Value} {xs : List Value} {p : Addr} (h : W.ownsRow B e s v n xs) (hp : p.block < B) : (W.setCell p u).ownsRow B e s v n xs := by
 rcases h.2 with ⟨rfl, h0⟩ | ⟨g, cap, cur, hv, hb, hg, hh⟩
 ·exact ⟨h.1, .inl ⟨rfl, h0⟩⟩
 ·exact ⟨h.1, .inr ⟨g, cap, cur, hv, hb, (Below.heap_setCell _ _ _ _ (by omega)).trans hg, hh⟩⟩
/-- Rules with 'if' for the walk. -/
theorem cif {B : Nat} {W x : World} (hb : Below B W x) : ∀ b o, x.cell? ⟨b, o, none⟩ = if b < B then W.cell? ⟨b, o, none⟩ else hidC x b o := fun b o => by
 split
 ·exact hb.cell (p := ⟨b, o, none⟩) (by assumption)
 ·rfl
theorem fif {B : Nat} {W x : World} (hb : Below B W x) : ∀ b o, x.frozen? ⟨b, o, none⟩ = if b < B then W.frozen? ⟨b, o, none⟩ else hidF x b o := fun b o => by
 split
 ·exact hb.frozen (p := ⟨b, o, none⟩) (by assumption)
 ·rfl
end

end Go.Proofs.YtlkebhiaimijiaaGreatDoor

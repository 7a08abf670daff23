/- Texts laid together: VhQ, VhO. -/
import Derived.Test.YtlkebhiaimijiaaGreatDoorNhD
import Derived.Test.YtlkebhiaimijiaaGreatDoorNhC
import Derived.Test.YtlkebhiaimijiaaGreatDoorNhA
import Derived.Test.YtlkebhiaimijiaaGreatDoorNhB
import Derived.Test.YtlkebhiaimijiaaGreatDoorNgM
namespace Go.Proofs.YtlkebhiaimijiaaGreatDoor
set_option linter.unusedSimpArgs false
set_option linter.unusedVariables false
section
open Go Go.RowKit
set_option linter.unusedVariables false

/-- A symmetrical table that is below every table that is closed. -/
structure MSl (t : Tsk) (R : Fct → Fct → Bool) : Prop where
 sym : ∀ a b, IsF t.vars a → IsF t.vars b → R a b = R b a
 least : ∀ R', MutOk t R' → ∀ a b, IsF t.vars a → IsF t.vars b → R a b = true → R' a b = true
def IniD (t : Tsk) (R : Fct → Fct → Bool) : Prop := ∀ a b : Fct, IsF t.vars a → IsF t.vars b → nth t.init a.1.toNat = a.2 → nth t.init b.1.toNat = b.2 → R a b = true
def MadeS (t : Tsk) (R : Fct → Fct → Bool) (p : List Fct) : Prop := ∃ k, k < t.ops.length ∧ Touch (opr t.ops k) p ∧ ∃ z, RegS t.vars (opr t.ops k) p z ∧ HoldR R z
def pA (p : List Fct) : Fct := fcA2 p 0
def pZ (p : List Fct) : Fct := fcA2 p (p.length - 1)
/-- A fact, or two facts of different variables. -/
def OneTwo (vars : List Int) (p : List Fct) : Prop := (∃ a, p = [a] ∧ IsF vars a) ∨ ∃ a b, p = [a, b] ∧ IsF vars a ∧ IsF vars b ∧ a.1 < b.1
section
variable {vars : List Int} {t : Tsk} {R R0 : Fct → Fct → Bool} {p : List Fct} {M M0 : Nat → Nat → Bool}
theorem open_ot (h : OpenS vars R p) : OneTwo vars p := by
 rcases h with ⟨a, rfl, ha, _⟩ | ⟨a, b, rfl, ha, hb, hl, _⟩
 ·exact .inl ⟨a, rfl, ha⟩
 ·exact .inr ⟨a, b, rfl, ha, hb, hl⟩
theorem pA_one (a : Fct) : pA [a] = a := rfl
theorem pZ_one (a : Fct) : pZ [a] = a := rfl
theorem pA_two (a b : Fct) : pA [a, b] = a := rfl
theorem pZ_two (a b : Fct) : pZ [a, b] = b := rfl
theorem ot_isf (h : OneTwo vars p) : IsF vars (pA p) ∧ IsF vars (pZ p) ∧ 1 ≤ p.length ∧ p.length ≤ 2 ∧ ∀ x ∈ p, IsF vars x := by
 rcases h with ⟨a, rfl, ha⟩ | ⟨a, b, rfl, ha, hb, hl⟩
 ·exact ⟨ha, ha, by simp, by simp, fun x hx => by simp at hx; subst hx; exact ha⟩
 ·exact ⟨ha, hb, by simp, by simp, fun x hx => by
   simp at hx
   rcases hx with rfl | rfl
   ·exact ha
   ·exact hb⟩
theorem ot_fa (h : OneTwo vars p) : faB vars p = true := by
 rcases h with ⟨a, rfl, ha⟩ | ⟨a, b, rfl, ha, hb, hlt⟩
 ·exact fa_iff.2 ⟨asc_one _, fun x hx => by simp at hx; subst hx; exact ha⟩
 ·refine fa_iff.2 ⟨?_, fun x hx => ?_⟩
  ·unfold Asc; simp [hlt]
  ·simp at hx; rcases hx with rfl | rfl
   ·exact ha
   ·exact hb
theorem ot_uni {q : List Fct} (hp : OneTwo vars p) (hq : OneTwo vars q) (h1 : pA p = pA q) (h2 : pZ p = pZ q) : p = q := by
 rcases hp with ⟨a, rfl, _⟩ | ⟨a, b, rfl, _, _, hl⟩ <;> rcases hq with ⟨c, rfl, _⟩ | ⟨c, d, rfl, _, _, hk⟩
 ·rw [pA_one, pA_one] at h1; rw [h1]
 ·rw [pA_one, pA_two] at h1; rw [pZ_one, pZ_two] at h2
  subst h1 h2; omega
 ·rw [pA_one, pA_two] at h1; rw [pZ_one, pZ_two] at h2
  subst h1 h2; omega
 ·rw [pA_two, pA_two] at h1; rw [pZ_two, pZ_two] at h2
  rw [h1, h2]
theorem open_no (h : OpenS vars R p) : R (pA p) (pZ p) = false := by
 rcases h with ⟨a, rfl, _, h⟩ | ⟨a, b, rfl, _, _, _, _, _, h⟩
 ·exact h
 ·exact h
theorem rF_st (hd : ∀ k, k < vars.length → 0 ≤ nth vars k) {a b x y : Fct} (ha : IsF vars a) (hb : IsF vars b) (hx : IsF vars x) (hy : IsF vars y) :
  rF vars (stM M (numF vars a) (numF vars b)) x y = true ↔ (x = b ∧ y = a) ∨ (x = a ∧ y = b) ∨ rF vars M x y = true := by
 have e : ∀ {u v : Fct}, IsF vars u → IsF vars v → (numF vars u = numF vars v ↔ u = v) := fun hu hv => ⟨num_inj hd hu hv, fun h => by rw [h]⟩
 unfold rF stM
 split
 ·rename_i h; rw [e hx hb, e hy ha] at h; simp [h]
 ·rename_i h; rw [e hx hb, e hy ha] at h
  split
  ·rename_i h2; rw [e hx ha, e hy hb] at h2; simp [h2]
  ·rename_i h2; rw [e hx ha, e hy hb] at h2
   constructor
   ·intro h3; exact .inr (.inr h3)
   ·rintro (h3 | h3 | h3)
    ·exact absurd h3 h
    ·exact absurd h3 h2
    ·exact h3
theorem bool_ext {a b : Bool} (h : a = true ↔ b = true) : a = b := by cases a <;> cases b <;> simp_all
theorem msl_put (hd : ∀ k, k < t.vars.length → 0 ≤ nth t.vars k) (h : MSl t (rF t.vars M)) {a b : Fct} (ha : IsF t.vars a) (hb : IsF t.vars b) (hl : ∀ R', MutOk t R' → R' a b = true) : MSl t (rF t.vars (stM M (numF t.vars a) (numF t.vars b))) := by
 constructor
 ·intro x y hx hy
  refine bool_ext ?_
  rw [rF_st hd ha hb hx hy, rF_st hd ha hb hy hx, h.sym x y hx hy]
  constructor
  ·rintro (⟨h1, h2⟩ | ⟨h1, h2⟩ | h1)
   ·exact .inr (.inl ⟨h2, h1⟩)
   ·exact .inl ⟨h2, h1⟩
   ·exact .inr (.inr h1)
  ·rintro (⟨h1, h2⟩ | ⟨h1, h2⟩ | h1)
   ·exact .inr (.inl ⟨h2, h1⟩)
   ·exact .inl ⟨h2, h1⟩
   ·exact .inr (.inr h1)
 ·intro R' hR x y hx hy hxy
  rcases (rF_st hd ha hb hx hy).1 hxy with ⟨rfl, rfl⟩ | ⟨rfl, rfl⟩ | h1
  ·rw [hR.sym _ _ hb ha]; exact hl R' hR
  ·exact hl R' hR
  ·exact h.least R' hR x y hx hy h1
theorem msl_add (hr : Right t) (hd : ∀ k, k < t.vars.length → 0 ≤ nth t.vars k) (h : MSl t (rF t.vars M)) (h0 : ∀ a b, IsF t.vars a → IsF t.vars b → rF t.vars M0 a b = true → rF t.vars M a b = true) (hp : OpenS t.vars (rF t.vars M0) p) (hm : MadeS t (rF t.vars M) p) :
  MSl t (rF t.vars (stM M (numF t.vars (pA p)) (numF t.vars (pZ p)))) := by
 obtain ⟨hA, hZ, _, _, _⟩ := ot_isf (open_ot hp)
 refine msl_put hd h hA hZ fun R' hR => ?_
 obtain ⟨k, hk, ht, z, hz, hh⟩ := hm
 refine Classical.byContradiction fun hn => ?_
 have hn : R' (pA p) (pZ p) = false := by simpa using hn
 have hop : OpenS t.vars R' p := by
  rcases hp with ⟨a, rfl, ha, _⟩ | ⟨a, b, rfl, ha, hb, hl, g1, g2, _⟩
  ·exact .inl ⟨a, rfl, ha, hn⟩
  ·exact .inr ⟨a, b, rfl, ha, hb, hl, h.least R' hR _ _ ha ha (h0 _ _ ha ha g1), h.least R' hR _ _ hb hb (h0 _ _ hb hb g2), hn⟩
 have hzf := fa_inv (RegS.fa (op_ok hr hk) (open_fa hop) z hz)
 exact hR.step p hop k hk ht z hz fun x hx y hy => h.least R' hR x y (hzf x hx) (hzf y hy) (hh x hx y hy)
theorem msl_ok (h : MSl t R) (hi : IniD t R) (hno : ∀ p, OpenS t.vars R p → ¬ MadeS t R p) : MutOk t R :=
 ⟨h.sym, hi, fun p hp k hk ht z hz hh => hno p hp ⟨k, hk, ht, z, hz, hh⟩⟩
/-- The least closed table. -/
structure MLst (t : Tsk) (R : Fct → Fct → Bool) : Prop where
 ok : MutOk t R
 sl : MSl t R
theorem mlst_uni {R' : Fct → Fct → Bool} (h : MLst t R) (h' : MLst t R') {a b : Fct} (ha : IsF t.vars a) (hb : IsF t.vars b) : R a b = R' a b :=
 bool_ext ⟨h.sl.least R' h'.ok a b ha hb, h'.sl.least R h.ok a b ha hb⟩
theorem mlst_hold {R' : Fct → Fct → Bool} (h : MLst t R) (h' : MLst t R') {z : List Fct} (hz : faB t.vars z = true) : HoldR R z ↔ HoldR R' z := by
 have hi := fa_inv hz
 constructor
 ·intro g x hx y hy; rw [← mlst_uni h h' (hi x hx) (hi y hy)]; exact g x hx y hy
 ·intro g x hx y hy; rw [mlst_uni h h' (hi x hx) (hi y hy)]; exact g x hx y hy
end

theorem frS_le {vars : List Int} (hd : ∀ k, k < vars.length → 1 ≤ nth vars k ∧ nth vars k ≤ 64) : ∀ i, i ≤ vars.length → frS vars i ≤ 64 * i
 | 0, _ => Int.le_refl _
 | i + 1, hi => by
  have h1 := frS_le hd i (by omega)
  have h2 := hd i (by omega)
  have e : frS vars (i + 1) = frS vars i + nth vars i := rfl
  omega
/-- How many cells of a table are false. -/
def fcR (M : Nat → Nat → Bool) (i : Nat) : Nat → Nat
 | 0 => 0
 | n + 1 => fcR M i n + if M i n = true then 0 else 1
def fcM (F : Nat) (M : Nat → Nat → Bool) : Nat → Nat
 | 0 => 0
 | n + 1 => fcM F M n + fcR M n F
section
variable {M M' : Nat → Nat → Bool}
theorem fcR_le {i : Nat} (h : ∀ j, M i j = true → M' i j = true) : ∀ n, fcR M' i n ≤ fcR M i n
 | 0 => Nat.le_refl _
 | n + 1 => by
  have ih := fcR_le h n
  have hn := h n
  show fcR M' i n + _ ≤ fcR M i n + _
  by_cases e : M i n = true
  ·rw [if_pos e, if_pos (hn e)]; omega
  ·rw [if_neg e]; split <;> omega
theorem fcR_lt {i c : Nat} (h : ∀ j, M i j = true → M' i j = true) (h1 : M i c = false) (h2 : M' i c = true) : ∀ n, c < n → fcR M' i n < fcR M i n
 | n + 1, hc => by
  show fcR M' i n + _ < fcR M i n + _
  by_cases e : c = n
  ·subst e
   have ih := fcR_le h c
   rw [if_pos h2, if_neg (by rw [h1]; decide)]; omega
  ·have ih := fcR_lt h h1 h2 n (by omega)
   have hn := h n
   by_cases e2 : M i n = true
   ·rw [if_pos e2, if_pos (hn e2)]; omega
   ·rw [if_neg e2]; split <;> omega
theorem fcM_le {F : Nat} (h : ∀ i j, M i j = true → M' i j = true) : ∀ n, fcM F M' n ≤ fcM F M n
 | 0 => Nat.le_refl _
 | n + 1 => by
  have ih := fcM_le (F := F) h n
  have := fcR_le (h n) F
  show fcM F M' n + _ ≤ fcM F M n + _
  omega
theorem fcM_lt {F r c : Nat} (h : ∀ i j, M i j = true → M' i j = true) (h1 : M r c = false) (h2 : M' r c = true) (hc : c < F) : ∀ n, r < n → fcM F M' n < fcM F M n
 | n + 1, hr => by
  show fcM F M' n + _ < fcM F M n + _
  by_cases e : r = n
  ·subst e
   have := fcM_le (F := F) h r
   have := fcR_lt (h r) h1 h2 F hc
   omega
  ·have := fcM_lt h h1 h2 hc n (by omega)
   have := fcR_le (h n) F
   omega
theorem stM_up (M : Nat → Nat → Bool) (a b : Nat) : ∀ i j, M i j = true → stM M a b i j = true := fun i j h => by
 unfold stM
 split
 ·rfl
 ·split
  ·rfl
  ·exact h
theorem stM_at (M : Nat → Nat → Bool) (a b : Nat) : stM M a b a b = true := by
 unfold stM
 split
 ·rfl
 ·rw [if_pos ⟨rfl, rfl⟩]
end
/-- A pass: what was the table at its begin, what is it now, whether anything was set. -/
structure Pass (t : Tsk) (M0 M : Nat → Nat → Bool) (ch : Bool) (ps : List (List Fct)) (i : Nat) : Prop where
 sl : MSl t (rF t.vars M)
 ini : IniD t (rF t.vars M)
 up : ∀ a b, M0 a b = true → M a b = true
 same : ch = false → M = M0 ∧ ∀ k, k < i → ¬ MadeS t (rF t.vars M0) (ps.getD k [])
 less : ch = true → fcM (nF t.vars) M (nF t.vars) < fcM (nF t.vars) M0 (nF t.vars)
section
variable {t : Tsk} {M0 M : Nat → Nat → Bool} {ch : Bool} {ps : List (List Fct)} {i : Nat}
theorem Pass.start (h : MSl t (rF t.vars M)) (hi : IniD t (rF t.vars M)) : Pass t M M false ps 0 := ⟨h, hi, fun _ _ h => h, fun _ => ⟨rfl, fun k hk => by omega⟩, fun h => (by cases h)⟩
theorem Pass.no (h : Pass t M0 M ch ps i) (hn : ¬ MadeS t (rF t.vars M) (ps.getD i [])) : Pass t M0 M ch ps (i + 1) :=
  ⟨h.sl, h.ini, h.up, fun e => by
      obtain ⟨h1, h2⟩ := h.same e
      refine ⟨h1, fun k hk => ?_⟩
      by_cases e : k = i
      · subst e; rw [← h1]; exact hn
      · exact h2 k (by omega), h.less⟩
theorem Pass.yes (hr : Right t) (h : Pass t M0 M ch ps i) {p : List Fct} (hp : OpenS t.vars (rF t.vars M0) p) (hm : MadeS t (rF t.vars M) p) :
  Pass t M0 (stM M (numF t.vars (pA p)) (numF t.vars (pZ p))) true ps (i + 1) := by
 have hd : ∀ k, k < t.vars.length → 0 ≤ nth t.vars k := fun k hk => by have := (hr.dom k hk).1; omega
 obtain ⟨hA, hZ, _, _, _⟩ := ot_isf (open_ot hp)
 have hup := stM_up M (numF t.vars (pA p)) (numF t.vars (pZ p))
 refine ⟨msl_add hr hd h.sl (fun a b _ _ e => h.up _ _ e) hp hm, fun a b ha hb h1 h2 => hup _ _ (h.ini a b ha hb h1 h2), fun a b e => hup _ _ (h.up a b e), fun e => (by cases e), fun _ => ?_⟩
 cases ec : ch
 ·obtain ⟨rfl, _⟩ := h.same ec
  exact fcM_lt hup (open_no hp) (stM_at _ _ _) (num_lt hd hZ) _ (num_lt hd hA)
 ·exact Nat.lt_of_le_of_lt (fcM_le hup _) (h.less ec)
theorem Pass.done (h : Pass t M0 M false ps ps.length) (hps : ∀ p, p ∈ ps ↔ OpenS t.vars (rF t.vars M0) p) : MLst t (rF t.vars M) := by
 obtain ⟨rfl, h2⟩ := h.same rfl
 refine ⟨msl_ok h.sl h.ini fun p hp => ?_, h.sl⟩
 obtain ⟨k, hk, rfl⟩ := List.mem_iff_getElem.1 ((hps p).2 hp)
 have := h2 k hk
 rw [List.getD, List.getElem?_eq_getElem hk] at this
 exact this
end
end

section
open Go Go.RowKit Go.Maps
set_option linter.unusedVariables false

/-- The partial states from which operator k makes the set with the numbers i, j. -/
structure CausL (w : World) (C mb : Nat) (t : Tsk) (i j k : Nat) (LA : Option Addr) (hs : List Hd) : Prop where
 rls : Rls w (fun b => b < C ∨ b = mb) LA hs
 cap : ∀ n, n < hs.length → (hd hs n).l.length ≤ (hd hs n).c
 fa : ∀ z ∈ hls hs, faB t.vars z = true
 few : hs.length ≤ 1024
 mem : ∀ p, OneTwo t.vars p → numF t.vars (pA p) = i → numF t.vars (pZ p) = j → ∀ z, z ∈ hls hs ↔ RegS t.vars (opr t.ops k) p z
def CausE (w : World) (C mb : Nat) (t : Tsk) (i j k cb : Nat) : Prop :=
 C ≤ cb ∧ cb ≠ mb ∧ ∃ (LA : Option Addr) (lc : Nat) (hs : List Hd), BxI w cb 132 #[.slice LA hs.length lc] ∧ CausL w C mb t i j k LA hs
structure CausAt (w : World) (mb C : Nat) (t : Tsk) : Prop where
 le : C ≤ mb
 map : ∃ es clock, w.heap[mb]? = some (.map es clock) ∧ CTab es.toList ∧ ∀ x ∈ es.toList, ∃ i j k cb : Nat, x.key = ck i j k ∧ x.val = .pointer (some ⟨cb, 0, none⟩) ∧ CausE w C mb t i j k cb
section
variable {w w' : World} {C mb : Nat} {t : Tsk} {i j k cb : Nat} {LA : Option Addr} {hs : List Hd}
theorem CausL.kb (h : CausL w C mb t i j k LA hs) {bad : Nat → Prop} (K : Kb bad w w') (hb : ∀ b, bad b → b < C ∨ b = mb) : CausL w' C mb t i j k LA hs :=
 { h with rls := h.rls.move ⟨K.size, fun b hb1 hb2 => K.block b hb1 (fun hh => hb2 (hb b hh)), fun b _ hh => hh⟩ }
theorem CausE.kb (h : CausE w C mb t i j k cb) {bad : Nat → Prop} (K : Kb bad w w') (hb : ∀ b, bad b → b < C ∨ b = mb) : CausE w' C mb t i j k cb := by
 obtain ⟨h1, h2, LA, lc, hs, h3, h4⟩ := h
 exact ⟨h1, h2, LA, lc, hs, h3.kb K (fun hh => by rcases hb _ hh with h | h <;> omega), h4.kb K hb⟩
theorem CausAt.kb (h : CausAt w mb C t) {bad : Nat → Prop} (K : Kb bad w w') (hb : ∀ b, bad b → b < C) : CausAt w' mb C t := by
 refine ⟨h.le, ?_⟩
 obtain ⟨es, clock, h1, h2, h3⟩ := h.map
 have hm : mb < w.heap.size := (Array.getElem?_eq_some_iff.1 h1).1
 refine ⟨es, clock, (K.block mb hm (fun hh => by have := hb _ hh; have := h.le; omega)).trans h1, h2, fun x hx => ?_⟩
 obtain ⟨i, j, k, cb, e1, e2, e3⟩ := h3 x hx
 exact ⟨i, j, k, cb, e1, e2, e3.kb K fun b hh => .inl (hb b hh)⟩
theorem CausAt.up (h : CausAt w mb C t) (k : Below w.heap.size w w') : CausAt w' mb C t := h.kb (Kb.of_below (bad := fun _ => False) k) fun _ hh => hh.elim
theorem CausAt.lt (h : CausAt w mb C t) : mb < w.heap.size := by
 obtain ⟨es, clock, h1, _⟩ := h.map
 exact (Array.getElem?_eq_some_iff.1 h1).1
/-- What is told of an absent key. -/
def NoKey (w : World) (mb : Nat) (k : Value) : Prop := ∃ es clock, w.heap[mb]? = some (.map es clock) ∧ ∀ x ∈ es.toList, x.key ≠ k
theorem NoKey.up {kv : Value} (h : NoKey w mb kv) (k : Below w.heap.size w w') : NoKey w' mb kv := by
 obtain ⟨es, clock, h1, h2⟩ := h
 exact ⟨es, clock, (k.block mb (Array.getElem?_eq_some_iff.1 h1).1).trans h1, h2⟩
theorem CausAt.look (h : CausAt w mb C t) (hi : i ≤ 100000) (hj : j ≤ 100000) (hk : k ≤ 100000) :
  ∃ v, (Instr.lookup 76 (.map (some mb)) (.agg #[.int .i64 i, .int .i64 j, .int .i64 k]) false).run Tryz.prog w = .ok v w ∧ ((v = .pointer none ∧ NoKey w mb (ck i j k)) ∨ ∃ cb, v = .pointer (some ⟨cb, 0, none⟩) ∧ CausE w C mb t i j k cb) := by
 obtain ⟨es, clock, h1, h2, h3⟩ := h.map
 obtain ⟨v, hv, hl⟩ := ctab_look h1 h2 (ckI_of (a := i) (by omega) (by omega)) (ckI_of (a := j) (by omega) (by omega)) (ckI_of (a := k) (by omega) (by omega))
 refine ⟨v, hl, ?_⟩
 rcases hv with ⟨x, hx, kx, rfl⟩ | ⟨hn, rfl⟩
 ·obtain ⟨i', j', k', cb, e1, e2, e3⟩ := h3 x hx
  obtain ⟨g1, g2, g3⟩ := ck_inj (e1.symm.trans kx)
  have g1 : i' = i := by omega
  have g2 : j' = j := by omega
  have g3 : k' = k := by omega
  subst g1 g2 g3
  exact .inr ⟨cb, e2, e3⟩
 ·exact .inl ⟨rfl, es, clock, h1, hn⟩
theorem kb_block {m : Nat} {es es' : Array MapEntry} {c c' : Nat} (hm : w.heap[m]? = some (.map es c)) : Kb (fun b => b = m) w (ChangeMaps.setBlock w m (.map es' c')) ∧ (ChangeMaps.setBlock w m (.map es' c')).heap[m]? = some (.map es' c') := by
 have hlt : m < w.heap.size := (Array.getElem?_eq_some_iff.1 hm).1
 refine ⟨⟨rfl, rfl, rfl, by simp [ChangeMaps.setBlock], fun b hb hn => ?_⟩, ?_⟩
 ·have hn : b ≠ m := hn
  simp [ChangeMaps.setBlock, Array.getElem?_setIfInBounds, Ne.symm hn]
 ·simp [ChangeMaps.setBlock, hlt]
theorem CausAt.store (h : CausAt w mb C t) (hi : i ≤ 100000) (hj : j ≤ 100000) (hk : k ≤ 100000) (hno : NoKey w mb (ck i j k)) (hE : CausE w C mb t i j k cb) :
  ∃ w', (Instr.mapUpdate 76 (.map (some mb)) (.agg #[.int .i64 i, .int .i64 j, .int .i64 k]) (.pointer (some ⟨cb, 0, none⟩))).run Tryz.prog w = .ok () w' ∧ CausAt w' mb C t ∧ Kb (fun b => b = mb) w w' ∧ CausE w' C mb t i j k cb := by
 obtain ⟨es, clock, h1, h2, h3⟩ := h.map
 obtain ⟨es0, clock0, h4, h5⟩ := hno
 rw [h1] at h4
 simp only [Option.some.injEq, Obj.map.injEq] at h4
 obtain ⟨rfl, rfl⟩ := h4
 obtain ⟨es', clock', g1, g2, g3⟩ := ctab_store h1 h2 (ckI_of (a := i) (by omega) (by omega)) (ckI_of (a := j) (by omega) (by omega)) (ckI_of (a := k) (by omega) (by omega)) h5 (.pointer (some ⟨cb, 0, none⟩))
 obtain ⟨K, hm⟩ := kb_block (es' := es') (c' := clock') h1
 have hE' := hE.kb K fun b hh => .inr hh
 refine ⟨_, g1, ⟨h.le, es', clock', hm, g2, fun x hx => ?_⟩, K, hE'⟩
 rcases g3 x hx with ⟨e1, e2⟩ | hx
 ·exact ⟨i, j, k, cb, e1, e2, hE'⟩
 ·obtain ⟨i', j', k', cb', e1, e2, e3⟩ := h3 x hx
  exact ⟨i', j', k', cb', e1, e2, e3.kb K fun b hh => .inr hh⟩
end
/-- Where a table ends. -/
structure TLow (B C g : Nat) (rb : Nat → Nat) (F : Nat) : Prop where
 le : B ≤ C
 g : 0 < F → g < C
 r : ∀ j, j < F → rb j < C
theorem TblAt.kb {w w' : World} {B X fc rc g C : Nat} {t : Tsk} {p : Lies} {fa ra : Option Addr} {rb : Nat → Nat} {M : Nat → Nat → Bool} {bad : Nat → Prop} (h : TblAt w B X t p fa fc ra rc g rb M) (k : Kb bad w w') (hb : ∀ b, bad b → C ≤ b) (l : TLow B C g rb (nF t.vars)) : TblAt w' B X t p fa fc ra rc g rb M := by
 have hB : Below B w w' := k.below (fun b hb1 hh => by have := hb b hh; have := l.le; omega) h.le
 refine ⟨h.box.kb k (fun hh => by have := hb _ hh; have := l.le; have := h.xB; omega), h.tsk.below hB, h.fst.below hB, h.xB, Nat.le_trans h.le k.size, fun hp => ?_⟩
 obtain ⟨h1, h2, h3, h4⟩ := h.mat hp
 exact ⟨h1, h2, h3, h4.of k.size (k.block g h4.glt (fun hh => by have := hb _ hh; have := l.g hp; omega)) fun j hj => k.block (rb j) (h4.rlt hj) (fun hh => by have := hb _ hh; have := l.r j hj; omega)⟩
/-- Does one of them hold? -/
def hlsB (R : Fct → Fct → Bool) (hs : List Hd) : Bool := anyB hs.length fun n => hldB R (hd hs n).l
theorem hls_made {w : World} {C mb : Nat} {t : Tsk} {k : Nat} {LA : Option Addr} {hs : List Hd} {p : List Fct} {M : Nat → Nat → Bool} (h : CausL w C mb t (numF t.vars (pA p)) (numF t.vars (pZ p)) k LA hs) (hp : OneTwo t.vars p) (hsym : ∀ a b, IsF t.vars a → IsF t.vars b → rF t.vars M a b = rF t.vars M b a) :
  hlsB (rF t.vars M) hs = true ↔ ∃ z, RegS t.vars (opr t.ops k) p z ∧ HoldR (rF t.vars M) z := by
 have hb : ∀ {z}, z ∈ hls hs → (hldB (rF t.vars M) z = true ↔ HoldR (rF t.vars M) z) := fun hz => hldB_iff hsym (fa_inv (h.fa _ hz))
 unfold hlsB
 rw [anyB_true]
 constructor
 ·rintro ⟨n, hn, e⟩
  have hz : (hd hs n).l ∈ hls hs := mem_hls.2 ⟨n, hn, rfl⟩
  exact ⟨_, (h.mem p hp rfl rfl _).1 hz, (hb hz).1 e⟩
 ·rintro ⟨z, hz, e⟩
  have hz := (h.mem p hp rfl rfl z).2 hz
  obtain ⟨n, hn, rfl⟩ := mem_hls.1 hz
  exact ⟨n, hn, (hb hz).2 e⟩
/-- The call of holds on each of a list. -/
theorem cau_hold {w : World} {B X fc rc g C mb : Nat} {t : Tsk} {q : Lies} {fa ra : Option Addr} {rb : Nat → Nat} {M : Nat → Nat → Bool} {i j k lc : Nat} {LA : Option Addr} {hs : List Hd} (hd : ∀ k, k < t.vars.length → 1 ≤ nth t.vars k ∧ nth t.vars k ≤ 64) (hn : t.vars.length ≤ 64) (h : TblAt w B X t q fa fc ra rc g rb M) (hl : CausL w C mb t i j k LA hs) :
  Calls Tryz.prog 62 #[.slice LA hs.length lc, .func (.func 63) #[.pointer (some ⟨X, 0, none⟩)] #[]] w fun e w' => e = .returned (.bool (hlsB (rF t.vars M) hs)) ∧ Below w.heap.size w w' := by
 have hfew := hl.few
 refine cf_hol w LA hs.length lc (fun n => .slice (Go.Proofs.YtlkebhiaimijiaaGreatDoor.hd hs n).a (Go.Proofs.YtlkebhiaimijiaaGreatDoor.hd hs n).l.length (Go.Proofs.YtlkebhiaimijiaaGreatDoor.hd hs n).c) (fun n => hldB (rF t.vars M) (Go.Proofs.YtlkebhiaimijiaaGreatDoor.hd hs n).l) (.pointer (some ⟨X, 0, none⟩)) (by omega) (fun h0 => ?_) (fun W hW n hn2 => ?_)
 ·obtain ⟨b, off, e, hb, _, hc⟩ := hl.rls.2.1 h0
  exact ⟨b, off, e, hb, hc⟩
 ·have hz : (Go.Proofs.YtlkebhiaimijiaaGreatDoor.hd hs n).l ∈ hls hs := mem_hls.2 ⟨n, hn2, rfl⟩
  have hf := hl.fa _ hz
  have := fa_len hf
  exact tholds_any hd hn _ _ _ (fa_inv hf) W (h.up hW) ((hl.rls.up hW).fac hn2).at_ (by omega) (hl.cap n hn2)
end

end Go.Proofs.YtlkebhiaimijiaaGreatDoor

/- Texts laid together: Base, Bel, Data, Reg, RegA, FracA, FracB, FracC, FracD, FracE, FracR. -/
import Derived.Test.YtaampjhdgeoicaaGreatRows
import Derived.WalkKit
import Derived.WalkSpells
import Derived.WalkLawsBesides
import Derived.Deep.QuietTactic
import Derived.BigQuiet
import Derived.Lib.Hide
import Derived.RegionTactic
import Derived.BigRegion
import Derived.OrdersHeld
import Derived.Deep.RegionHeld
namespace Go.Proofs.YtaampjhdgeoicaaGreat
set_option linter.unusedSimpArgs false
set_option linter.unusedVariables false
section
open Go.RowKit

theorem ret_int {k : IntKind} {a b : Int} (h : a = b) : Ending.returned (.int k a) = .returned (.int k b) := by rw [h]
theorem bool_ret {a b : Bool} (h : a = b) : Ending.returned (.bool a) = .returned (.bool b) := by rw [h]

theorem quiet_left {P : Program} {f : FuncId} {args : Array Value} {w : World} {n : Nat} {v : Value}
  (h : Calls P f args (w.drewN n) fun e w' => e = .returned v ∧ w.drewN n = w') : Calls P f args (w.drewN n) fun e w'' => e = .returned v ∧ ∃ m, w'' = w.drewN m :=
 h.mono fun _ _ ⟨he, hm⟩ => ⟨he, n, hm.symm⟩
theorem quiet_n {P : Program} {f : FuncId} {args : Array Value} {w : World} {n : Nat} {v : Value}
  (h : Calls P f args (w.drewN n) fun e w' => e = .returned v ∧ ∃ m, w' = (w.drewN n).drewN m) : Calls P f args (w.drewN n) fun e w'' => e = .returned v ∧ ∃ m, w'' = w.drewN m :=
 h.mono fun _ _ ⟨he, m, hm⟩ => ⟨he, n + m, by rw [hm, World.drewN_drewN]⟩

theorem below_dN {B : Nat} {a w : World} (h : Below B a w) (n : Nat) : Below B a (w.drewN n) := ⟨h.os, h.tape, h.output, h.size, h.block⟩
theorem below_step {B : Nat} {w X w' : World} (h : Below X.heap.size X w') (hs : B ≤ X.heap.size) (h0 : Below B w X) : Below B w w' := h0.trans (h.mono hs)

theorem lt_s (a b : Nat) (h : a ≤ b) : a < b + 1 := Nat.lt_succ_of_le h
theorem le_s (a b : Nat) (h : a ≤ b) : a ≤ b + 1 := Nat.le_succ_of_le h
attribute [go_sem] lt_s le_s

/-- A cell, a mark, behind a name that the walk does not open. -/
def hidC (w : World) (b o : Nat) : Option Value := w.cell? ⟨b, o, none⟩
def hidF (w : World) (b o : Nat) : Bool := w.frozen? ⟨b, o, none⟩
/-- What a call has left, as rules for the walk: 'if', which it decides by linear arithmetic. -/
theorem cellsIf {B : Nat} {W w1 : World} (hb : Below W.heap.size W w1) (hB : W.heap.size = B) :
  (∀ b o, w1.cell? ⟨b, o, none⟩ = if b < B then W.cell? ⟨b, o, none⟩ else hidC w1 b o) ∧ (∀ b o, w1.frozen? ⟨b, o, none⟩ = if b < B then W.frozen? ⟨b, o, none⟩ else hidF w1 b o) ∧ B ≤ w1.heap.size ∧ (∀ b, b < B → b < w1.heap.size) ∧ (∀ b, b ≤ B → b ≤ w1.heap.size) := by
 subst hB
 refine ⟨fun b o => ?_, fun b o => ?_, hb.size, fun b h => Nat.lt_of_lt_of_le h hb.size, fun b h => Nat.le_trans h hb.size⟩
 ·by_cases h : b < W.heap.size
  ·rw [if_pos h]; exact hb.cell (p := ⟨b, o, none⟩) h
  ·rw [if_neg h]; rfl
 ·by_cases h : b < W.heap.size
  ·rw [if_pos h]; exact hb.frozen (p := ⟨b, o, none⟩) h
  ·rw [if_neg h]; rfl

/-- A world in which what was there in w0 is as it was. -/
structure Aft (w0 : World) where
 w : World
 below : Below w0.heap.size w0 w
instance (w0 : World) : Nonempty (Aft w0) := ⟨⟨w0, Below.refl _ _⟩⟩

section
variable {P : Program} {f : FuncId} {args : Array Value} {w0 : World} {x : Aft w0} {v : Value}
theorem aft_of (h : Calls P f args x.w fun e w' => e = .returned v ∧ Below x.w.heap.size x.w w') : Calls P f args x.w fun e w'' => e = .returned v ∧ ∃ y : Aft w0, w'' = y.w :=
 h.mono fun _ w' ⟨he, hb⟩ => ⟨he, ⟨w', below_step hb x.below.size x.below⟩, rfl⟩
theorem aft_same (h : Calls P f args x.w fun e w' => e = .returned v ∧ x.w = w') : Calls P f args x.w fun e w'' => e = .returned v ∧ ∃ y : Aft w0, w'' = y.w :=
 h.mono fun _ _ ⟨he, hb⟩ => ⟨he, x, hb.symm⟩
theorem aft_drew (h : Calls P f args x.w fun e w' => e = .returned v ∧ ∃ n, w' = x.w.drewN n) : Calls P f args x.w fun e w'' => e = .returned v ∧ ∃ y : Aft w0, w'' = y.w :=
 aft_of (h.mono fun _ _ ⟨he, n, hb⟩ => ⟨he, by rw [hb]; exact below_dN (Below.refl _ _) n⟩)
end

theorem aft_below {w w' : World} (h : ∃ x : Aft w, w' = x.w) : Below w.heap.size w w' := by
 obtain ⟨x, rfl⟩ := h
 exact x.below

/-- A region that draws its order, whose operations only read and whose calls leave what was there: one walk, in the text's order. -/
theorem wp_region_aft {P : Program} {id : Nat} {Q : Exit → Act → World → Prop} {a : Act} {w : World} {l : List Oper} {B : Nat} (hm : P.follows .mixedOrders = true) (hB : Region.lexB .any l.toArray = true) (hs : w.heap.size = B)
  (h : (∀ (x : Aft w) (b o : Nat), x.w.cell? ⟨b, o, none⟩ = if b < B then w.cell? ⟨b, o, none⟩ else hidC x.w b o) →
   wpQuiet P l.toArray (fun u => ∃ x : Aft w, u = x.w) (fun a' => ∀ w', (∃ x : Aft w, w' = x.w) → Q .normal a' w') l a) : (Code.region id l.toArray true).wp P Q a w :=
 wp_region_quiet (C := fun u => ∃ x : Aft w, u = x.w) hm hB ⟨⟨_, (Below.refl _ _).drew⟩, rfl⟩ (by simpa using h fun x => (cellsIf x.below hs).1)
end

section
open Go Go.RowKit
set_option linter.unusedVariables false

theorem bel {p : Prop} (h : p := by (repeat (first | exact Below.refl _ _ | refine below_dN ?_ _ | refine Below.drew ?_ | refine Below.alloc ?_ (by first | omega | (simp; done) | (simp; omega)) _ | refine Below.setCell ?_ (by first | omega | (simp; done) | (simp; omega)) _ | refine below_step (by assumption) (by first | omega | (simp; done) | (simp; omega)) ?_))) : p := h
section
variable (w v : World)
theorem s00 (h : w.heap.size < v.heap.size := by omega) : w.heap.size < v.heap.size := h
theorem s01 (h : w.heap.size < v.heap.size + 1 := by omega) : w.heap.size < v.heap.size + 1 := h
theorem s02 (h : w.heap.size < v.heap.size + 1 + 1 := by omega) : w.heap.size < v.heap.size + 1 + 1 := h
theorem s10 (h : w.heap.size + 1 < v.heap.size := by omega) : w.heap.size + 1 < v.heap.size := h
theorem s11 (h : w.heap.size + 1 < v.heap.size + 1 := by omega) : w.heap.size + 1 < v.heap.size + 1 := h
theorem s12 (h : w.heap.size + 1 < v.heap.size + 1 + 1 := by omega) : w.heap.size + 1 < v.heap.size + 1 + 1 := h
theorem s20 (h : w.heap.size + 1 + 1 < v.heap.size := by omega) : w.heap.size + 1 + 1 < v.heap.size := h
theorem s21 (h : w.heap.size + 1 + 1 < v.heap.size + 1 := by omega) : w.heap.size + 1 + 1 < v.heap.size + 1 := h
theorem s22 (h : w.heap.size + 1 + 1 < v.heap.size + 1 + 1 := by omega) : w.heap.size + 1 + 1 < v.heap.size + 1 + 1 := h
end
end

section
open Go.RowKit

/-- The k-th number; the k-th fact's variable and value. (Behind names: simp would write them otherwise.) -/
def nth (l : List Int) (k : Nat) : Int := l.getD k 0
def fv (l : List (Int × Int)) (k : Nat) : Int := (l.getD k (0, 0)).1
def fx (l : List (Int × Int)) (k : Nat) : Int := (l.getD k (0, 0)).2

/-- A slice (address A) whose cells, all below block B, are the numbers l. -/
def IntsAt (w : World) (B : Nat) (A : Option Addr) (l : List Int) : Prop :=
 l.length ≤ 140737488355328 ∧ (0 < l.length → ∃ b off, A = some ⟨b, off, none⟩ ∧ b < B ∧ ∀ k, k < l.length → w.cell? ⟨b, off + k, none⟩ = some (.int .i64 (nth l k)))
/-- A slice of facts (two cells each). -/
def FactsAt (w : World) (B : Nat) (A : Option Addr) (l : List (Int × Int)) : Prop :=
 l.length ≤ 140737488355328 ∧ (0 < l.length → ∃ b off, A = some ⟨b, off, none⟩ ∧ b < B ∧ ∀ k, k < l.length → w.cell? ⟨b, off + k * 2, none⟩ = some (.int .i64 (fv l k)) ∧ w.cell? ⟨b, off + k * 2 + 1, none⟩ = some (.int .i64 (fx l k)))

section
variable {w w' : World} {B B' : Nat} {A : Option Addr}
theorem IntsAt.len {l : List Int} (h : IntsAt w B A l) : l.length ≤ 140737488355328 := h.1
theorem IntsAt.at_ {l : List Int} (h : IntsAt w B A l) {k : Nat} (hk : k < l.length) : ∃ b off, A = some ⟨b, off, none⟩ ∧ b < B ∧ ∀ k, k < l.length → w.cell? ⟨b, off + k, none⟩ = some (.int .i64 (nth l k)) := h.2 (by omega)
theorem IntsAt.keep {l : List Int} (h : IntsAt w B A l) (hk : ∀ p : Addr, p.block < B → w'.cell? p = w.cell? p) (hB : B ≤ B') : IntsAt w' B' A l :=
 ⟨h.1, fun hn => by
  obtain ⟨b, off, e, hb, hc⟩ := h.2 hn
  exact ⟨b, off, e, by omega, fun k hlt => (hk _ hb).trans (hc k hlt)⟩⟩
theorem FactsAt.len {l : List (Int × Int)} (h : FactsAt w B A l) : l.length ≤ 140737488355328 := h.1
theorem FactsAt.at_ {l : List (Int × Int)} (h : FactsAt w B A l) {k : Nat} (hk : k < l.length) : ∃ b off, A = some ⟨b, off, none⟩ ∧ b < B ∧ ∀ k, k < l.length → w.cell? ⟨b, off + k * 2, none⟩ = some (.int .i64 (fv l k)) ∧ w.cell? ⟨b, off + k * 2 + 1, none⟩ = some (.int .i64 (fx l k)) := h.2 (by omega)
theorem FactsAt.keep {l : List (Int × Int)} (h : FactsAt w B A l) (hk : ∀ p : Addr, p.block < B → w'.cell? p = w.cell? p) (hB : B ≤ B') : FactsAt w' B' A l :=
 ⟨h.1, fun hn => by
  obtain ⟨b, off, e, hb, hc⟩ := h.2 hn
  exact ⟨b, off, e, by omega, fun k hlt => ⟨(hk _ hb).trans (hc k hlt).1, (hk _ hb).trans (hc k hlt).2⟩⟩⟩
end

/-- A state has a value in range for each variable. -/
def StP (vars s : List Int) : Prop := s.length = vars.length ∧ ∀ k, k < s.length → 0 ≤ nth s k ∧ nth s k < nth vars k
instance (vars s : List Int) : Decidable (StP vars s) := by unfold StP; exact inferInstance
def stB (vars s : List Int) : Bool := decide (StP vars s)
/-- Facts strictly ascending by variable, in range. -/
def FaP (vars : List Int) (f : List (Int × Int)) : Prop := ∀ k, k < f.length →
 0 ≤ (fv f k) ∧ (fv f k) < vars.length ∧ 0 ≤ (fx f k) ∧ (fx f k) < nth vars (fv f k).toNat ∧ (0 < k → fv f (k - 1) < (fv f k))
instance (vars : List Int) (f : List (Int × Int)) : Decidable (FaP vars f) := by unfold FaP; exact inferInstance
def faB (vars : List Int) (f : List (Int × Int)) : Bool := decide (FaP vars f)
/-- All facts hold. -/
def HoP (f : List (Int × Int)) (s : List Int) : Prop := ∀ k, k < f.length → 0 ≤ (fv f k) ∧ (fv f k) < s.length ∧ nth s (fv f k).toNat = (fx f k)
instance (f : List (Int × Int)) (s : List Int) : Decidable (HoP f s) := by unfold HoP; exact inferInstance
def hoB (f : List (Int × Int)) (s : List Int) : Bool := decide (HoP f s)
end

section
open Go Go.RowKit
set_option linter.unusedVariables false

section
variable {P : Program} {ops : Array Oper} {Q : Exit → Act → World → Prop} {md : Region.Mode} {S T : World → Prop} {st : Nat}
/-- Operation j waits for operation i. -/
def waits (md : Region.Mode) (ops : Array Oper) (j i : Nat) : Bool :=
 match ops[j]? with
 | some oj => oj.after.any fun e => Region.binds md e && e.on == i
 | none => false
inductive Path (md : Region.Mode) (ops : Array Oper) (i : Nat) : Nat → Prop
 | refl : Path md ops i i
 | step {j k : Nat} : Path md ops i j → waits md ops k j = true → Path md ops i k
/-- Which of the first n operations wait for i, through others. -/
def pathL (md : Region.Mode) (ops : Array Oper) (i : Nat) : Nat → List Bool
  | 0 => []
  | n + 1 => pathL md ops i n ++ [(n == i) || (match ops[n]? with
      | some oj => oj.after.any fun e => Region.binds md e && (pathL md ops i n).getD e.on false
      | none => false)]
theorem pathL_len (i : Nat) : ∀ n, (pathL md ops i n).length = n
 | 0 => rfl
 | n + 1 => by show (pathL md ops i n ++ [_]).length = _; simp [pathL_len i n]
theorem pathL_path (i : Nat) : ∀ (n j : Nat), (pathL md ops i n).getD j false = true → Path md ops i j
 | 0, j, h => by simp [pathL] at h
 | n + 1, j, h => by
  have hl := pathL_len (md := md) (ops := ops) i n
  unfold pathL at h
  simp only [List.getD] at h
  by_cases hj : j < n
  ·rw [List.getElem?_append_left (by omega)] at h
   exact pathL_path i n j h
  ·rw [List.getElem?_append_right (by omega), hl] at h
   by_cases e : j = n
   ·subst e
    rw [Nat.sub_self] at h
    simp only [List.getElem?_cons_zero, Option.getD_some, Bool.or_eq_true, beq_iff_eq] at h
    rcases h with h | h
    ·subst h; exact .refl
    ·split at h
     ·rename_i oj ho
      obtain ⟨e, he, h2⟩ := Array.any_eq_true'.1 h
      simp only [Bool.and_eq_true] at h2
      have hp := pathL_path i j e.on h2.2
      refine .step hp ?_
      unfold waits
      rw [ho]
      exact Array.any_eq_true'.2 ⟨e, he, by simp [h2.1]⟩
     ·cases h
   ·have : 0 < j - n := by omega
    obtain ⟨d, hd⟩ : ∃ d, j - n = d + 1 := ⟨j - n - 1, by omega⟩
    rw [hd] at h
    simp at h
def pathB (md : Region.Mode) (ops : Array Oper) (i s : Nat) : Bool := (pathL md ops i (s + 1)).getD s false
theorem path_of {i s : Nat} (h : pathB md ops i s = true) : Path md ops i s := pathL_path i _ s h
/-- What has come up is closed under waiting. -/
def Cl (md : Region.Mode) (ops : Array Oper) (listed : Array Bool) : Prop :=
 ∀ j oj, ops[j]? = some oj → listed.getD j false = true → ∀ e ∈ oj.after, Region.binds md e = true → listed.getD e.on false = true
theorem cl_set {listed : Array Bool} {i : Nat} (h : Cl md ops listed) (hi : i ∈ Region.ready md ops listed) : Cl md ops (listed.setIfInBounds i true) := by
 obtain ⟨_, oi, hoi, hall⟩ := mem_ready.1 hi
 intro j oj hj hl e he hb
 by_cases hij : i = j
 ·subst hij
  have : oj = oi := Option.some.inj (hj.symm.trans hoi)
  subst this
  exact getD_set_true (hall e he hb)
 ·rw [getD_set_ne false hij] at hl
  exact getD_set_true (h j oj hj hl e he hb)
theorem cl_start (n : Nat) : Cl md ops (Array.replicate n false) := fun j oj hj hl e he hb => by
 exfalso
 rcases Nat.lt_or_ge j n with h | h
 ·simp [h] at hl
 ·simp [h] at hl
theorem cl_path {listed : Array Bool} {i s : Nat} (h : Cl md ops listed) (hp : Path md ops i s) (hs : listed.getD s false = true) : listed.getD i false = true := by
 induction hp with
 | refl => exact hs
 | @step j k hp hw ih =>
  unfold waits at hw
  split at hw
  ·rename_i oj ho
   obtain ⟨e, he, h2⟩ := Array.any_eq_true'.1 hw
   simp only [Bool.and_eq_true, beq_iff_eq] at h2
   have := h k oj ho hs e he h2.1
   rw [h2.2] at this
   exact ih this
  ·cases hw
def Gd (st : Nat) (S : World → Prop) (listed : Array Bool) (w : World) : Prop := listed.getD st false = false → S w
def wpAnyG (P : Program) (md : Region.Mode) (ops : Array Oper) (Q : Exit → Act → World → Prop) (st : Nat) (S : World → Prop) : Nat → Array Bool → Act → World → Prop
 | 0, listed, a, w => Region.ready md ops listed = [] ∧ Q .normal a w
 | fuel + 1, listed, a, w =>
  (Region.ready md ops listed = [] → Q .normal a w) ∧
  ∀ i ∈ Region.ready md ops listed, wpOp P ops Q i (fun a' w' => Gd st S (listed.setIfInBounds i true) w' ∧ wpAnyG P md ops Q st S fuel (listed.setIfInBounds i true) a' w') a w
theorem wpAny_of_G : ∀ (fuel : Nat) (listed : Array Bool) (a : Act) (w : World), wpAnyG P md ops Q st S fuel listed a w → wpAny P md ops Q fuel listed a w
 | 0, _, _, _, h => h
 | fuel + 1, _, _, _, h => ⟨h.1, fun i hi => wpOp_mono (fun a' w' h' => wpAny_of_G fuel _ a' w' h'.2) (h.2 i hi)⟩
theorem getD_un {listed : Array Bool} {i j : Nat} (h : (listed.setIfInBounds i true).getD j false = false) : listed.getD j false = false := by
 cases e : listed.getD j false with
 | false => rfl
 | true => rw [getD_set_true e] at h; cases h
theorem getD_TF {listed : Array Bool} {i : Nat} (h : listed.getD i true = false) : listed.getD i false = false := by
 rcases Nat.lt_or_ge i listed.size with h' | h'
 ·simp [h'] at h ⊢; exact h
 ·simp [Array.getElem?_eq_none h'] at h

theorem wpAnyG_first {i : Nat} {oi : Oper} {v : Value} (hi : ops[i]? = some oi) (hsel : ∀ (j : Nat) (o : Oper) cs b, ops[j]? = some o → o.op ≠ .select cs b)
    (hQ : ∀ c a w, Q (.panic c) (a.put oi.dst v) w → Q (.panic c) a w) (hne : i ≠ st)
    (hT : ∀ (listed : Array Bool) (w : World), Cl md ops listed → listed.getD i true = false → Gd st S listed w → T w) :
    ∀ (fuel : Nat) (listed : Array Bool) (a : Act) (w : World), Cl md ops listed →
      (∀ j oj, ops[j]? = some oj → j ≠ i → listed.getD j true = false → (∀ e ∈ oj.after, Region.binds md e = true → e.on ≠ i) → oi.apart ops oj = true) →
      i ∈ Region.ready md ops listed → YieldsIf P ops T oi v a → Gd st S listed w →
      wpAnyG P md ops Q st S fuel (listed.setIfInBounds i true) (a.put oi.dst v) w → wpAnyG P md ops Q st S (fuel + 1) listed a w := by
  intro fuel
  induction fuel with
  | zero =>
    intro listed a w hcl _ hr hy hS H
    refine ⟨fun h => (by rw [h] at hr; cases hr), fun j hj => ?_⟩
    by_cases hji : j = i
    · subst hji
      exact hy.wpOp hi (hT _ _ hcl (mem_ready.1 hr).1 hS) ⟨fun h => hS (getD_un h), H⟩
    · have := ready_mono hj hji
      rw [H.1] at this
      cases this
  | succ fuel ih =>
    intro listed a w hcl hfree hr hy hS H
    refine ⟨fun h => (by rw [h] at hr; cases hr), fun j hj => ?_⟩
    by_cases hji : j = i
    · subst hji
      exact hy.wpOp hi (hT _ _ hcl (mem_ready.1 hr).1 hS) ⟨fun h => hS (getD_un h), H⟩
    · have h1 := H.2 j (ready_mono hj hji)
      obtain ⟨hjun, oj, hoj, hall⟩ := mem_ready.1 hj
      have hnot : ∀ e ∈ oj.after, Region.binds md e = true → e.on ≠ i := fun e he hb heq => by
        have h1 := hall e he hb
        have h0 := (mem_ready.1 hr).1
        rw [heq] at h1
        rcases Nat.lt_or_ge i listed.size with h' | h'
        · simp [h'] at h0 h1; rw [h0] at h1; cases h1
        · simp [Array.getElem?_eq_none h'] at h1
      have h2 := wpOp_putIf hoj (hfree j oj hoj hji hjun hnot) (fun cs b => hsel i oi cs b hi) (fun cs b => hsel j oj cs b hoj) hQ hy h1
      have hfree' : ∀ k ok, ops[k]? = some ok → k ≠ i → (listed.setIfInBounds j true).getD k true = false →
          (∀ e ∈ ok.after, Region.binds md e = true → e.on ≠ i) → oi.apart ops ok = true := fun k ok hk hki hun hno => by
        refine hfree k ok hk hki ?_ hno
        by_cases hjk : j = k
        · subst hjk; exact hjun
        · rw [getD_set_ne true hjk] at hun; exact hun
      refine wpOp_mono (fun a' w' h3 => ?_) h2
      obtain ⟨g1, g2, g3⟩ := h3
      have hG : Gd st S (listed.setIfInBounds j true) w' := fun h => g2 (by
        rw [← Array.setIfInBounds_comm _ _ hji, getD_set_ne false hne]
        exact h)
      refine ⟨hG, ih (listed.setIfInBounds j true) a' w' (cl_set hcl hj) hfree' (ready_mono hr (Ne.symm hji)) g1 hG ?_⟩
      rw [Array.setIfInBounds_comm _ _ hji]
      exact g3

theorem wpAnyG_take {i : Nat} {oi : Oper} {v : Value} {fuel : Nat} {listed : Array Bool} {a : Act} {w : World} (hi : ops[i]? = some oi) (hcl : Cl md ops listed ∧ Gd st S listed w)
  (hs : Region.noSelect ops = true) (hf : Region.free md ops listed i = true) (hr : (Region.ready md ops listed).contains i = true) (hne : (i == st) = false) (hp : pathB md ops i st = true)
  (hQ : ∀ c a w, Q (.panic c) (a.put oi.dst v) w → Q (.panic c) a w) (hy : YieldsIf P ops S oi v a)
  (h : Cl md ops (listed.setIfInBounds i true) ∧ Gd st S (listed.setIfInBounds i true) w → wpAnyG P md ops Q st S fuel (listed.setIfInBounds i true) (a.put oi.dst v) w) : wpAnyG P md ops Q st S (fuel + 1) listed a w :=
 have hr' : i ∈ Region.ready md ops listed := by simpa using hr
 wpAnyG_first hi (Region.noSelect_spec hs) hQ (by simpa using hne) (T := S) (fun l w' hc hl hg => hg (by
  cases e : l.getD st false with
  | false => rfl
  | true => have h3 := cl_path hc (path_of hp) e; rw [getD_TF hl] at h3; cases h3)) fuel listed a w hcl.1 (Region.free_spec hi hf) hr' hy hcl.2 (h ⟨cl_set hcl.1 hr', fun h => hcl.2 (getD_un h)⟩)
theorem wpAnyG_any {i : Nat} {oi : Oper} {v : Value} {fuel : Nat} {listed : Array Bool} {a : Act} {w : World} (hi : ops[i]? = some oi) (hcl : Cl md ops listed ∧ Gd st S listed w)
  (hs : Region.noSelect ops = true) (hf : Region.free md ops listed i = true) (hr : (Region.ready md ops listed).contains i = true) (hne : (i == st) = false)
  (hQ : ∀ c a w, Q (.panic c) (a.put oi.dst v) w → Q (.panic c) a w) (hy : YieldsIf P ops (fun _ => True) oi v a)
  (h : Cl md ops (listed.setIfInBounds i true) ∧ Gd st S (listed.setIfInBounds i true) w → wpAnyG P md ops Q st S fuel (listed.setIfInBounds i true) (a.put oi.dst v) w) : wpAnyG P md ops Q st S (fuel + 1) listed a w :=
 have hr' : i ∈ Region.ready md ops listed := by simpa using hr
 wpAnyG_first hi (Region.noSelect_spec hs) hQ (by simpa using hne) (T := fun _ => True) (fun _ _ _ _ _ => trivial) fuel listed a w hcl.1 (Region.free_spec hi hf) hr' hy hcl.2 (h ⟨cl_set hcl.1 hr', fun h => hcl.2 (getD_un h)⟩)
/-- Each of the operations rs comes up next. -/
def AllG (P : Program) (md : Region.Mode) (ops : Array Oper) (Q : Exit → Act → World → Prop) (st : Nat) (S : World → Prop) (fuel : Nat) (listed : Array Bool) (a : Act) (w : World) (rs : List Nat) : Prop :=
 ∀ i ∈ rs, i ∈ Region.ready md ops listed → wpOp P ops Q i (fun a' w' => Gd st S (listed.setIfInBounds i true) w' ∧ wpAnyG P md ops Q st S fuel (listed.setIfInBounds i true) a' w') a w
theorem AllG.nil {fuel : Nat} {listed : Array Bool} {a : Act} {w : World} : AllG P md ops Q st S fuel listed a w [] := fun _ h => by cases h
theorem AllG.cons {fuel : Nat} {listed : Array Bool} {a : Act} {w : World} {i : Nat} {o : Oper} {rs : List Nat} (ho : ops[i]? = some o) (hcl : Cl md ops listed ∧ Gd st S listed w)
  (h : ∀ K' : Act → World → Prop, Shut (∀ a w, ((i == st || listed.getD st false) = true ∨ S w) → (Cl md ops (listed.setIfInBounds i true) ∧ Gd st S (listed.setIfInBounds i true) w → wpAnyG P md ops Q st S fuel (listed.setIfInBounds i true) a w) → K' a w) → if Region.wanted o (yielded ops a.tmps) = true then Oper.wp P o a w K' Q else K' (a.put o.dst undef) w)
  (hs : AllG P md ops Q st S fuel listed a w rs) : AllG P md ops Q st S fuel listed a w (i :: rs) := fun j hj hjr => by
 rcases List.mem_cons.1 hj with rfl | hj
 ·refine wpOp_step ho (fun K' hK => h K' (fun a w hS hW => ?_))
  have hG : Gd st S (listed.setIfInBounds j true) w := fun h0 => by
   rcases hS with hS | hS
   ·exfalso
    simp only [Bool.or_eq_true, beq_iff_eq] at hS
    rcases hS with hS | hS
    ·subst hS
     have hlt : j < listed.size := by
      rcases Nat.lt_or_ge j listed.size with h' | h'
      ·exact h'
      ·have := (mem_ready.1 hjr).1; simp [Array.getElem?_eq_none h'] at this
     simp [hlt] at h0
    ·rw [getD_set_true hS] at h0; cases h0
   ·exact hS
  exact hK a w ⟨hG, hW ⟨cl_set hcl.1 hjr, hG⟩⟩
 ·exact hs j hj hjr
theorem wpAnyG_ready {rs : List Nat} {fuel : Nat} {listed : Array Bool} {a : Act} {w : World} (hr : Region.ready md ops listed = rs) (hne : rs ≠ [])
  (h : AllG P md ops Q st S fuel listed a w rs) : wpAnyG P md ops Q st S (fuel + 1) listed a w :=
 ⟨fun h0 => absurd (hr ▸ h0) hne, fun i hi => h i (hr ▸ hi) hi⟩
theorem wpAnyG_done {listed : Array Bool} {a : Act} {w : World} (hr : Region.ready md ops listed = []) (h : Q .normal a w) :
  ∀ fuel, wpAnyG P md ops Q st S fuel listed a w
 | 0 => ⟨hr, h⟩
 | _ + 1 => ⟨fun _ => h, by rw [hr]; simp⟩
/-- The beginning. -/
theorem wp_region_G {id : Nat} {a : Act} {w : World} (st : Nat) (S : World → Prop) (hm : P.follows .mixedOrders = true) (hS : S w.drew)
  (h : Cl .any ops (Array.replicate ops.size false) ∧ Gd st S (Array.replicate ops.size false) w.drew → wpAnyG P .any ops Q st S ops.size (Array.replicate ops.size false) a w.drew) : (Code.region id ops true).wp P Q a w :=
 wp_region_any hm (wpAny_of_G _ _ _ _ (h ⟨cl_start _, fun _ => hS⟩))
end
end

section
open Go Go.RowKit
set_option linter.unusedVariables false

section
variable {P : Program} {ops : Array Oper} {Q : Exit → Act → World → Prop} {md : Region.Mode} {S T : World → Prop} {st : Nat}
/-- The walk's steps, with the grounds found by the walk itself. An operation that needs no memory. -/
theorem wpS1 (i : Nat) {oi : Oper} {v : Value} {fuel : Nat} {listed : Array Bool} {a a' : Act} {w : World} (hcl : Cl md ops listed ∧ Gd st S listed w)
  (h : Cl md ops (listed.setIfInBounds i true) ∧ Gd st S (listed.setIfInBounds i true) w → wpAnyG P md ops Q st S fuel (listed.setIfInBounds i true) a' w)
  (hi : ops[i]? = some oi := by exact rfl) (hs : Region.noSelect ops = true := by kernel_rfl) (hf : Region.free md ops listed i = true := by kernel_rfl) (hr : (Region.ready md ops listed).contains i = true := by kernel_rfl) (hne : (i == st) = false := by exact rfl) (hw : Region.wanted oi (yielded ops a.tmps) = true := by exact rfl)
  (hy : ∀ w, (fun _ : World => True) w → (execOp a.eval oi).run P w = .ok (.value v) w := by (intro wS hSw; (try dsimp only at hSw); first | (go_simp; done) | (go_simp; with_reducible rfl) | (simp [go_sem, ↓IntWalk.iteOmega, *]; done) | (simp [go_sem, ↓IntWalk.iteOmega, *]; with_reducible rfl)))
  (ha : a.put oi.dst v = a' := by (try simp only [Act.put, List.setIfInBounds_toArray, List.set_cons_zero, List.set_cons_succ, List.getElem_toArray, List.getElem_cons_succ, List.getElem_cons_zero]); exact rfl) (hQ : ∀ c a w, Q (.panic c) (a.put oi.dst v) w → Q (.panic c) a w := by exact fun _ _ _ h => h) : wpAnyG P md ops Q st S (fuel + 1) listed a w :=
 wpAnyG_any hi hcl hs hf hr hne hQ (Or.inl ⟨hw, hy⟩) (ha ▸ h)
/-- A load. -/
theorem wpS2 (i : Nat) {oi : Oper} {v : Value} {fuel : Nat} {listed : Array Bool} {a a' : Act} {w : World} (hcl : Cl md ops listed ∧ Gd st S listed w)
  (h : Cl md ops (listed.setIfInBounds i true) ∧ Gd st S (listed.setIfInBounds i true) w → wpAnyG P md ops Q st S fuel (listed.setIfInBounds i true) a' w)
  (hi : ops[i]? = some oi := by exact rfl) (hs : Region.noSelect ops = true := by kernel_rfl) (hf : Region.free md ops listed i = true := by kernel_rfl) (hr : (Region.ready md ops listed).contains i = true := by kernel_rfl) (hne : (i == st) = false := by exact rfl) (hp : pathB md ops i st = true := by kernel_rfl) (hw : Region.wanted oi (yielded ops a.tmps) = true := by exact rfl)
  (hy : ∀ w, S w → (execOp a.eval oi).run P w = .ok (.value v) w := by (intro wS hSw; (try dsimp only at hSw); first | (go_simp; done) | (go_simp; with_reducible rfl) | (simp [go_sem, ↓IntWalk.iteOmega, *]; done) | (simp [go_sem, ↓IntWalk.iteOmega, *]; with_reducible rfl)))
  (ha : a.put oi.dst v = a' := by (try simp only [Act.put, List.setIfInBounds_toArray, List.set_cons_zero, List.set_cons_succ, List.getElem_toArray, List.getElem_cons_succ, List.getElem_cons_zero]); exact rfl) (hQ : ∀ c a w, Q (.panic c) (a.put oi.dst v) w → Q (.panic c) a w := by exact fun _ _ _ h => h) : wpAnyG P md ops Q st S (fuel + 1) listed a w :=
 wpAnyG_take hi hcl hs hf hr hne hp hQ (Or.inl ⟨hw, hy⟩) (ha ▸ h)
/-- An operation whose guard does not hold. -/
theorem wpS0 (i : Nat) {oi : Oper} {fuel : Nat} {listed : Array Bool} {a a' : Act} {w : World} (hcl : Cl md ops listed ∧ Gd st S listed w)
  (h : Cl md ops (listed.setIfInBounds i true) ∧ Gd st S (listed.setIfInBounds i true) w → wpAnyG P md ops Q st S fuel (listed.setIfInBounds i true) a' w)
  (hi : ops[i]? = some oi := by exact rfl) (hs : Region.noSelect ops = true := by kernel_rfl) (hf : Region.free md ops listed i = true := by kernel_rfl) (hr : (Region.ready md ops listed).contains i = true := by kernel_rfl) (hne : (i == st) = false := by exact rfl) (hw : Region.wanted oi (yielded ops a.tmps) = false := by exact rfl)
  (ha : a.put oi.dst undef = a' := by (try simp only [Act.put, List.setIfInBounds_toArray, List.set_cons_zero, List.set_cons_succ, List.getElem_toArray, List.getElem_cons_succ, List.getElem_cons_zero]); exact rfl) (hQ : ∀ c a w, Q (.panic c) (a.put oi.dst undef) w → Q (.panic c) a w := by exact fun _ _ _ h => h) : wpAnyG P md ops Q st S (fuel + 1) listed a w :=
 wpAnyG_any hi hcl hs hf hr hne hQ (Or.inr ⟨hw, rfl⟩) (ha ▸ h)
/-- An operation whose value is told. -/
theorem wpS3 (i : Nat) (v : Value) {oi : Oper} {fuel : Nat} {listed : Array Bool} {a a' : Act} {w : World} (hcl : Cl md ops listed ∧ Gd st S listed w)
  (h : Cl md ops (listed.setIfInBounds i true) ∧ Gd st S (listed.setIfInBounds i true) w → wpAnyG P md ops Q st S fuel (listed.setIfInBounds i true) a' w)
  (hi : ops[i]? = some oi := by exact rfl) (hs : Region.noSelect ops = true := by kernel_rfl) (hf : Region.free md ops listed i = true := by kernel_rfl) (hr : (Region.ready md ops listed).contains i = true := by kernel_rfl) (hne : (i == st) = false := by exact rfl) (hw : Region.wanted oi (yielded ops a.tmps) = true := by exact rfl)
  (hy : ∀ w, (fun _ : World => True) w → (execOp a.eval oi).run P w = .ok (.value v) w := by (intro wS hSw; (try dsimp only at hSw); (try go_simp); (try simp [go_sem, ↓IntWalk.iteOmega, *])))
  (ha : a.put oi.dst v = a' := by (try simp only [Act.put, List.setIfInBounds_toArray, List.set_cons_zero, List.set_cons_succ, List.getElem_toArray, List.getElem_cons_succ, List.getElem_cons_zero]); exact rfl) (hQ : ∀ c a w, Q (.panic c) (a.put oi.dst v) w → Q (.panic c) a w := by exact fun _ _ _ h => h) : wpAnyG P md ops Q st S (fuel + 1) listed a w :=
 wpAnyG_any hi hcl hs hf hr hne hQ (Or.inl ⟨hw, hy⟩) (ha ▸ h)
/-- The slots in normal form. -/
theorem wpN {fuel : Nat} {listed : Array Bool} {a a' : Act} {w : World} (h : wpAnyG P md ops Q st S fuel listed a' w) (ha : a = a' := by (try simp only [Act.put, List.setIfInBounds_toArray, List.set_cons_zero, List.set_cons_succ, List.getElem_toArray, List.getElem_cons_succ, List.getElem_cons_zero]); exact rfl) : wpAnyG P md ops Q st S fuel listed a w := ha ▸ h
end
end

section
open Go.RowKit

/-- Int.gcd as an Int. -/
def gI (a b : Int) : Int := ((Int.gcd a b : Nat) : Int)

theorem gI_zero (a : Int) (h : 0 ≤ a) : gI a 0 = a := by
 unfold gI; simp; omega
theorem gI_step (a b : Int) : gI b (a % b) = gI a b := by
 unfold gI
 have h := Int.gcd_add_mul_right_left b (a % b) (a / b)
 have e : a % b + a / b * b = a := by have := Int.emod_add_mul_ediv a b; rw [Int.mul_comm]; exact this
 rw [e] at h
 rw [h, Int.gcd_comm]

set_option maxHeartbeats 400000 in
theorem gcd_any (a b : Int) (w : World) (ha : 0 ≤ a) (hb : 0 ≤ b) (ha' : a ≤ 9223372036854775807) (hb' : b ≤ 9223372036854775807) :
  Calls Tryz.prog 56 #[.int .i64 a, .int .i64 b] w fun e w' => e = .returned (.int .i64 (gI a b)) ∧ ∃ n, w' = w.drewN n := by
 go_enter Tryz.func56, Tryz.ntmps56
 go_wp2
 go_loopw [0, 1] (fun x y wr => ∃ (p q : Int) (n : Nat), 0 ≤ p ∧ 0 ≤ q ∧ p ≤ 9223372036854775807 ∧ q ≤ 9223372036854775807 ∧ x = .int .i64 p ∧ y = .int .i64 q ∧ gI p q = gI a b ∧ wr = w.drewN n) (fun _ y _ => (intOf y).toNat)
 case atStart => exact ⟨a, b, 0, ha, hb, ha', hb', rfl, rfl, rfl, rfl⟩
 case round =>
  obtain ⟨p, q, n, hp, hq, hp', hq', rfl, rfl, hg, rfl⟩ := hrel
  have Hg := Lib.hid hg
  clear hg
  by_cases h0 : q = 0
  ·have hd : (q != 0) = false := by simp [h0]
   have hfin : gI a b = p := by rw [← Hg.out, h0, gI_zero _ hp]
   have Hf := Lib.hid hfin
   clear hfin h0
   go_wp2
   go_ret
   exact ⟨by rw [Hf.out]; rfl, _, rfl⟩
  ·have hd : (q != 0) = true := by simp [h0]
   have hq1 : 1 ≤ q := by omega
   have hm := Int.emod_lt_of_pos p (by omega : 0 < q)
   have hm0 := Int.emod_nonneg p (by omega : q ≠ 0)
   go_wp2
   go_quiet (fail)
   go_wp2
   go_roundw
   case rel => exact ⟨q, p % q, _, by omega, by omega, by omega, by omega, rfl, rfl, by rw [gI_step]; exact Hg.out, World.drewN_drewN _ _ _⟩
   case measure => simp [intOf]; omega

/-- The absolute value. -/
def aI (n : Int) : Int := (n.natAbs : Int)
theorem aI_nonneg (n : Int) : 0 ≤ aI n := by unfold aI; omega
theorem aI_le (n b : Int) (h1 : -b ≤ n) (h2 : n ≤ b) : aI n ≤ b := by unfold aI; omega
theorem gI_aI (n d : Int) : gI (aI n) d = gI n d := by
 unfold gI aI; simp [Int.gcd]

set_option maxHeartbeats 400000 in
theorem abs_any (n : Int) (w : World) (h1 : -9223372036854775807 ≤ n) (h2 : n ≤ 9223372036854775807) :
  Calls Tryz.prog 57 #[.int .i64 n] w fun e w' => e = .returned (.int .i64 (aI n)) ∧ w = w' := by
 go_enter Tryz.func57, Tryz.ntmps57
 go_wp2
 all_goals (go_ret; exact ⟨ret_int (by unfold aI; omega), rfl⟩)

/-- Proper. -/
def prB (n d : Int) : Bool := decide (1 ≤ d ∧ d ≤ 1048576 ∧ -1099511627776 ≤ n ∧ n ≤ 1099511627776 ∧ gI n d = 1)

set_option maxHeartbeats 1000000 in
theorem proper_any (n d : Int) (w : World) :
  Calls Tryz.prog 89 #[.agg #[.int .i64 n, .int .i64 d]] w fun e w' => e = .returned (.bool (prB n d)) ∧ Below w.heap.size w w' := by
 by_cases c1 : 1 ≤ d
 ·by_cases c2 : d ≤ 1048576
  ·by_cases c3 : -1099511627776 ≤ n
   ·by_cases c4 : n ≤ 1099511627776
    ·have H := Lib.hid (show prB n d = (gI n d == 1) by unfold prB; rw [Bool.eq_iff_iff]; simp; omega)
     have a1 := aI_nonneg n
     have a2 := aI_le n 1099511627776 (by omega) c4
     have hg := gI_aI n d
     go_enter Tryz.func89, Tryz.ntmps89
     go_wp2
     go_quiet ((first | (go_at_call 57; exact quiet_left (abs_any _ _ (by omega) (by omega))) | (go_at_call 56; exact quiet_n (gcd_any _ _ _ (by omega) (by omega) (by omega) (by omega)))))
     go_wp2
     go_ret
     exact ⟨by rw [H.out]; rfl, below_dN ((Below.refl _ _).alloc (Nat.le_refl _) _) _⟩
    ·have H := Lib.hid (show prB n d = false by unfold prB; simp; omega)
     have hd : decide (n ≤ 1099511627776) = false := by simpa using c4
     go_enter Tryz.func89, Tryz.ntmps89
     go_wp2
     go_quiet (fail)
     go_wp2
     go_ret
     exact ⟨by rw [H.out]; rfl, below_dN ((Below.refl _ _).alloc (Nat.le_refl _) _) _⟩
   ·have H := Lib.hid (show prB n d = false by unfold prB; simp; omega)
    have hd : decide (-1099511627776 ≤ n) = false := by simpa using c3
    go_enter Tryz.func89, Tryz.ntmps89
    go_wp2
    go_quiet (fail)
    go_wp2
    go_ret
    exact ⟨by rw [H.out]; rfl, below_dN ((Below.refl _ _).alloc (Nat.le_refl _) _) _⟩
  ·have H := Lib.hid (show prB n d = false by unfold prB; simp; omega)
   have hd : decide (d ≤ 1048576) = false := by simpa using c2
   go_enter Tryz.func89, Tryz.ntmps89
   go_wp2
   go_quiet (fail)
   go_wp2
   go_ret
   exact ⟨by rw [H.out]; rfl, below_dN ((Below.refl _ _).alloc (Nat.le_refl _) _) _⟩
 ·have H := Lib.hid (show prB n d = false by unfold prB; simp; omega)
  have hd : decide (1 ≤ d) = false := by simpa using c1
  go_enter Tryz.func89, Tryz.ntmps89
  go_wp2
  go_quiet (fail)
  go_wp2
  go_ret
  exact ⟨by rw [H.out]; rfl, below_dN ((Below.refl _ _).alloc (Nat.le_refl _) _) _⟩
end

section
open Go.RowKit
set_option linter.unusedVariables false

/-- An error's value: 0 is nil. -/
def errV (c : Int) : Value := if c = 0 then .nilIface else .iface 49 (.int .i64 c)
theorem errV_0 : errV 0 = .nilIface := rfl
theorem errV_5 : errV 5 = .iface 49 (.int .i64 5) := rfl
/-- The last step of New: a numerator, a positive denominator. -/
def newG (n d : Int) : Int × Int × Int :=
 if aI (n.tdiv (gI n d)) > 1099511627776 ∨ d / gI n d > 1048576 then (0, 0, 5) else (n.tdiv (gI n d), d / gI n d, 0)
/-- New. -/
def newF (n d : Int) : Int × Int × Int :=
 if d = 0 then (0, 0, 22)
 else if n = -9223372036854775808 ∨ d = -9223372036854775808 then (0, 0, 5)
 else if d < 0 then newG (-n) (-d) else newG n d

theorem gI_pos (a b : Int) (h : 1 ≤ b) : 1 ≤ gI a b := by
 unfold gI
 have : 0 < Int.gcd a b := Int.gcd_pos_of_ne_zero_right a (by omega)
 omega
theorem gI_le (a b : Int) (h : 1 ≤ b) : gI a b ≤ b := by
 unfold gI
 have := Int.le_of_dvd (by omega : 0 < b) (Int.gcd_dvd_right a b)
 omega
theorem tdiv_bound (n g b : Int) (hg : 1 ≤ g) (h1 : -b ≤ n) (h2 : n ≤ b) : -b ≤ n.tdiv g ∧ n.tdiv g ≤ b := by
 have h := Int.natAbs_tdiv_le_natAbs n g
 omega
theorem ediv_bound (d g : Int) (hg : 1 ≤ g) (h1 : 0 ≤ d) : 0 ≤ d / g ∧ d / g ≤ d := by
 exact ⟨Int.ediv_nonneg h1 (by omega), Int.ediv_le_self g h1⟩

/-- What a call leaves: a fraction, an error. -/
def RetFE (r : Int × Int × Int) (w : World) (e : Ending) (w' : World) : Prop :=
 e = .returned (.tuple #[.agg #[.int .i64 r.1, .int .i64 r.2.1], errV r.2.2]) ∧ Below w.heap.size w w'

theorem RetFE.mk {r : Int × Int × Int} {w : World} {e : Ending} {w' : World} (h : e = .returned (.tuple #[.agg #[.int .i64 r.1, .int .i64 r.2.1], errV r.2.2])) (hb : Below w.heap.size w w') : RetFE r w e w' := ⟨h, hb⟩

set_option maxHeartbeats 1000000 in
theorem new_pos (n d : Int) (w : World) (hn1 : -9223372036854775807 ≤ n) (hn2 : n ≤ 9223372036854775807) (hd1 : 1 ≤ d) (hd2 : d ≤ 9223372036854775807) :
  Calls Tryz.prog 26 #[.int .i64 n, .int .i64 d] w (RetFE (newG n d) w) := by
 have b0 : (d == 0) = false := by simp; omega
 have b1 : (n == -9223372036854775808) = false := by simp; omega
 have b2 : (d == -9223372036854775808) = false := by simp; omega
 have b3 : decide (d < 0) = false := by simp; omega
 have a1 := aI_nonneg n
 have a2 := aI_le n 9223372036854775807 (by omega) hn2
 have g1 := gI_pos n d hd1
 have g2 := gI_le n d hd1
 obtain ⟨t1, t2⟩ := tdiv_bound n (gI n d) 9223372036854775807 g1 hn1 hn2
 obtain ⟨e1, e2⟩ := ediv_bound d (gI n d) g1 (by omega)
 have hg := gI_aI n d
 by_cases l1 : 1099511627776 < aI (n.tdiv (gI n d))
 ·have H := Lib.hid (show newG n d = (0, 0, 5) by unfold newG; rw [if_pos (Or.inl l1)])
  have hl : decide (1099511627776 < aI (n.tdiv (gI n d))) = true := by simpa using l1
  go_enter Tryz.func26, Tryz.ntmps26
  go_wp2_with (first | (go_at_call 57; refine (abs_any _ _ (by omega) (by omega)).mono ?_; rintro e w' ⟨rfl, rfl⟩) | (go_at_call 56; refine (gcd_any _ _ _ (by omega) (by omega) (by omega) (by omega)).mono ?_; rintro e w' ⟨rfl, nq, rfl⟩))
  go_region
  go_wp2_with (go_at_call 57; refine (abs_any _ _ (by omega) (by omega)).mono ?_; rintro e w' ⟨rfl, rfl⟩)
  refine bodyPost_ret (v := .tuple #[.agg #[.int .i64 0, .int .i64 0], .iface 49 (.int .i64 5)]) (by simp [results, Tryz.results26, go_sem]) rfl (RetFE.mk (by rw [H.out]; rfl) ?_)
  repeat (first | exact Below.refl _ _ | refine below_dN ?_ _ | refine Below.alloc ?_ (by simp) _ | refine Below.setCell ?_ (by simp) _)
 ·by_cases l2 : 1048576 < d / gI n d
  ·have H := Lib.hid (show newG n d = (0, 0, 5) by unfold newG; rw [if_pos (Or.inr l2)])
   have hl : decide (1099511627776 < aI (n.tdiv (gI n d))) = false := by simpa using l1
   have hl2 : decide (1048576 < d / gI n d) = true := by simpa using l2
   go_enter Tryz.func26, Tryz.ntmps26
   go_wp2_with (first | (go_at_call 57; refine (abs_any _ _ (by omega) (by omega)).mono ?_; rintro e w' ⟨rfl, rfl⟩) | (go_at_call 56; refine (gcd_any _ _ _ (by omega) (by omega) (by omega) (by omega)).mono ?_; rintro e w' ⟨rfl, nq, rfl⟩))
   go_region
   go_wp2_with (go_at_call 57; refine (abs_any _ _ (by omega) (by omega)).mono ?_; rintro e w' ⟨rfl, rfl⟩)
   refine bodyPost_ret (v := .tuple #[.agg #[.int .i64 0, .int .i64 0], .iface 49 (.int .i64 5)]) (by simp [results, Tryz.results26, go_sem]) rfl (RetFE.mk (by rw [H.out]; rfl) ?_)
   repeat (first | exact Below.refl _ _ | refine below_dN ?_ _ | refine Below.alloc ?_ (by simp) _ | refine Below.setCell ?_ (by simp) _)
  ·have H := Lib.hid (show newG n d = (n.tdiv (gI n d), d / gI n d, 0) by unfold newG; rw [if_neg (by omega)])
   have hl : decide (1099511627776 < aI (n.tdiv (gI n d))) = false := by simpa using l1
   have hl2 : decide (1048576 < d / gI n d) = false := by simpa using l2
   go_enter Tryz.func26, Tryz.ntmps26
   go_wp2_with (first | (go_at_call 57; refine (abs_any _ _ (by omega) (by omega)).mono ?_; rintro e w' ⟨rfl, rfl⟩) | (go_at_call 56; refine (gcd_any _ _ _ (by omega) (by omega) (by omega) (by omega)).mono ?_; rintro e w' ⟨rfl, nq, rfl⟩))
   go_region
   go_wp2_with (go_at_call 57; refine (abs_any _ _ (by omega) (by omega)).mono ?_; rintro e w' ⟨rfl, rfl⟩)
   refine bodyPost_ret (v := .tuple #[.agg #[.int .i64 (n.tdiv (gI n d)), .int .i64 (d / gI n d)], .nilIface]) (by simp [results, Tryz.results26, go_sem]) rfl (RetFE.mk (by rw [H.out]; rfl) ?_)
   repeat (first | exact Below.refl _ _ | refine below_dN ?_ _ | refine Below.alloc ?_ (by simp) _ | refine Below.setCell ?_ (by simp) _)

set_option maxHeartbeats 1000000 in
theorem new_neg (n d m e : Int) (w : World) (hm : -n = m) (he : -d = e) (hn1 : -9223372036854775807 ≤ n) (hn2 : n ≤ 9223372036854775807) (hd1 : -9223372036854775807 ≤ d) (hd2 : d ≤ -1) :
  Calls Tryz.prog 26 #[.int .i64 n, .int .i64 d] w (RetFE (newG m e) w) := by
 have b0 : (d == 0) = false := by simp; omega
 have b1 : (n == -9223372036854775808) = false := by simp; omega
 have b2 : (d == -9223372036854775808) = false := by simp; omega
 have b3 : decide (d < 0) = true := by simp; omega
 have a1 := aI_nonneg m
 have a2 := aI_le m 9223372036854775807 (by omega) (by omega)
 have g1 := gI_pos m e (by omega)
 have g2 := gI_le m e (by omega)
 obtain ⟨t1, t2⟩ := tdiv_bound m (gI m e) 9223372036854775807 g1 (by omega) (by omega)
 obtain ⟨e1, e2⟩ := ediv_bound e (gI m e) g1 (by omega)
 have hg := gI_aI m e
 by_cases l1 : 1099511627776 < aI (m.tdiv (gI m e))
 ·have H := Lib.hid (show newG m e = (0, 0, 5) by unfold newG; rw [if_pos (Or.inl l1)])
  have hl : decide (1099511627776 < aI (m.tdiv (gI m e))) = true := by simpa using l1
  go_enter Tryz.func26, Tryz.ntmps26
  go_wp2_with (first | (go_at_call 57; refine (abs_any _ _ (by omega) (by omega)).mono ?_; rintro _ w' ⟨rfl, rfl⟩) | (go_at_call 56; refine (gcd_any _ _ _ (by omega) (by omega) (by omega) (by omega)).mono ?_; rintro _ w' ⟨rfl, nq, rfl⟩))
  go_region
  go_wp2_with (go_at_call 57; refine (abs_any _ _ (by omega) (by omega)).mono ?_; rintro _ w' ⟨rfl, rfl⟩)
  refine bodyPost_ret (v := .tuple #[.agg #[.int .i64 0, .int .i64 0], .iface 49 (.int .i64 5)]) (by simp [results, Tryz.results26, go_sem]) rfl (RetFE.mk (by rw [H.out]; rfl) ?_)
  repeat (first | exact Below.refl _ _ | refine below_dN ?_ _ | refine Below.alloc ?_ (by simp) _ | refine Below.setCell ?_ (by simp) _)
 ·by_cases l2 : 1048576 < e / gI m e
  ·have H := Lib.hid (show newG m e = (0, 0, 5) by unfold newG; rw [if_pos (Or.inr l2)])
   have hl : decide (1099511627776 < aI (m.tdiv (gI m e))) = false := by simpa using l1
   have hl2 : decide (1048576 < e / gI m e) = true := by simpa using l2
   go_enter Tryz.func26, Tryz.ntmps26
   go_wp2_with (first | (go_at_call 57; refine (abs_any _ _ (by omega) (by omega)).mono ?_; rintro _ w' ⟨rfl, rfl⟩) | (go_at_call 56; refine (gcd_any _ _ _ (by omega) (by omega) (by omega) (by omega)).mono ?_; rintro _ w' ⟨rfl, nq, rfl⟩))
   go_region
   go_wp2_with (go_at_call 57; refine (abs_any _ _ (by omega) (by omega)).mono ?_; rintro _ w' ⟨rfl, rfl⟩)
   refine bodyPost_ret (v := .tuple #[.agg #[.int .i64 0, .int .i64 0], .iface 49 (.int .i64 5)]) (by simp [results, Tryz.results26, go_sem]) rfl (RetFE.mk (by rw [H.out]; rfl) ?_)
   repeat (first | exact Below.refl _ _ | refine below_dN ?_ _ | refine Below.alloc ?_ (by simp) _ | refine Below.setCell ?_ (by simp) _)
  ·have H := Lib.hid (show newG m e = (m.tdiv (gI m e), e / gI m e, 0) by unfold newG; rw [if_neg (by omega)])
   have hl : decide (1099511627776 < aI (m.tdiv (gI m e))) = false := by simpa using l1
   have hl2 : decide (1048576 < e / gI m e) = false := by simpa using l2
   go_enter Tryz.func26, Tryz.ntmps26
   go_wp2_with (first | (go_at_call 57; refine (abs_any _ _ (by omega) (by omega)).mono ?_; rintro _ w' ⟨rfl, rfl⟩) | (go_at_call 56; refine (gcd_any _ _ _ (by omega) (by omega) (by omega) (by omega)).mono ?_; rintro _ w' ⟨rfl, nq, rfl⟩))
   go_region
   go_wp2_with (go_at_call 57; refine (abs_any _ _ (by omega) (by omega)).mono ?_; rintro _ w' ⟨rfl, rfl⟩)
   refine bodyPost_ret (v := .tuple #[.agg #[.int .i64 (m.tdiv (gI m e)), .int .i64 (e / gI m e)], .nilIface]) (by simp [results, Tryz.results26, go_sem]) rfl (RetFE.mk (by rw [H.out]; rfl) ?_)
   repeat (first | exact Below.refl _ _ | refine below_dN ?_ _ | refine Below.alloc ?_ (by simp) _ | refine Below.setCell ?_ (by simp) _)


set_option maxHeartbeats 1000000 in
theorem new_any (n d : Int) (w : World) (hn1 : -9223372036854775808 ≤ n) (hn2 : n ≤ 9223372036854775807) (hd1 : -9223372036854775808 ≤ d) (hd2 : d ≤ 9223372036854775807) :
  Calls Tryz.prog 26 #[.int .i64 n, .int .i64 d] w (RetFE (newF n d) w) := by
 by_cases c0 : d = 0
 ·have H := Lib.hid (show newF n d = (0, 0, 22) by unfold newF; rw [if_pos c0])
  have b0 : (d == 0) = true := by simp [c0]
  clear c0 hd1 hd2
  go_enter Tryz.func26, Tryz.ntmps26
  go_wp2
  refine bodyPost_ret (v := .tuple #[.agg #[.int .i64 0, .int .i64 0], .iface 49 (.int .i64 22)]) (by simp [results, Tryz.results26, go_sem]) rfl (RetFE.mk (by rw [H.out]; rfl) ?_)
  repeat (first | exact Below.refl _ _ | refine below_dN ?_ _ | refine Below.alloc ?_ (by simp) _ | refine Below.setCell ?_ (by simp) _)
 by_cases c1 : n = -9223372036854775808
 ·have H := Lib.hid (show newF n d = (0, 0, 5) by unfold newF; rw [if_neg c0, if_pos (Or.inl c1)])
  have b0 : (d == 0) = false := by simp [c0]
  have b1 : (n == -9223372036854775808) = true := by simp [c1]
  clear c0 c1 hn1 hn2
  go_enter Tryz.func26, Tryz.ntmps26
  go_wp2
  refine bodyPost_ret (v := .tuple #[.agg #[.int .i64 0, .int .i64 0], .iface 49 (.int .i64 5)]) (by simp [results, Tryz.results26, go_sem]) rfl (RetFE.mk (by rw [H.out]; rfl) ?_)
  repeat (first | exact Below.refl _ _ | refine below_dN ?_ _ | refine Below.alloc ?_ (by simp) _ | refine Below.setCell ?_ (by simp) _)
 by_cases c2 : d = -9223372036854775808
 ·have H := Lib.hid (show newF n d = (0, 0, 5) by unfold newF; rw [if_neg c0, if_pos (Or.inr c2)])
  have b0 : (d == 0) = false := by simp [c0]
  have b1 : (n == -9223372036854775808) = false := by simp [c1]
  have b2 : (d == -9223372036854775808) = true := by simp [c2]
  clear c0 c2 hd1 hd2
  go_enter Tryz.func26, Tryz.ntmps26
  go_wp2
  refine bodyPost_ret (v := .tuple #[.agg #[.int .i64 0, .int .i64 0], .iface 49 (.int .i64 5)]) (by simp [results, Tryz.results26, go_sem]) rfl (RetFE.mk (by rw [H.out]; rfl) ?_)
  repeat (first | exact Below.refl _ _ | refine below_dN ?_ _ | refine Below.alloc ?_ (by simp) _ | refine Below.setCell ?_ (by simp) _)
 by_cases c3 : d < 0
 ·have e : newF n d = newG (-n) (-d) := by unfold newF; rw [if_neg c0, if_neg (by omega), if_pos c3]
  rw [e]; exact new_neg n d _ _ w rfl rfl (by omega) hn2 (by omega) (by omega)
 ·have e : newF n d = newG n d := by unfold newF; rw [if_neg c0, if_neg (by omega), if_neg c3]
  rw [e]; exact new_pos n d w (by omega) hn2 (by omega) hd2
end

section
open Go.RowKit
set_option linter.unusedVariables false

set_option maxHeartbeats 400000 in
theorem size_any (n : Int) (w : World) (h1 : -9223372036854775808 ≤ n) (h2 : n ≤ 9223372036854775807) :
  Calls Tryz.prog 79 #[.int .i64 n] w fun e w' => e = .returned (.int .u64 (aI n)) ∧ w = w' := by
 go_enter Tryz.func79, Tryz.ntmps79
 go_wp2
 all_goals (go_ret; refine ⟨ret_int ?_, rfl⟩; unfold aI; (try simp only [IntKind.wrap_u64]); omega)

set_option maxHeartbeats 400000 in
theorem rgcd_any (a b : Int) (w : World) (ha : 0 ≤ a) (hb : 0 ≤ b) (ha' : a ≤ 18446744073709551615) (hb' : b ≤ 18446744073709551615) :
  Calls Tryz.prog 103 #[.int .u64 a, .int .u64 b] w fun e w' => e = .returned (.int .u64 (gI a b)) ∧ ∃ n, w' = w.drewN n := by
 go_enter Tryz.func103, Tryz.ntmps103
 go_wp2
 go_loopw [0, 1] (fun x y wr => ∃ (p q : Int) (n : Nat), 0 ≤ p ∧ 0 ≤ q ∧ p ≤ 18446744073709551615 ∧ q ≤ 18446744073709551615 ∧ x = .int .u64 p ∧ y = .int .u64 q ∧ gI p q = gI a b ∧ wr = w.drewN n) (fun _ y _ => (intOf y).toNat)
 case atStart => exact ⟨a, b, 0, ha, hb, ha', hb', rfl, rfl, rfl, rfl⟩
 case round =>
  obtain ⟨p, q, n, hp, hq, hp', hq', rfl, rfl, hg, rfl⟩ := hrel
  have Hg := Lib.hid hg
  clear hg
  by_cases h0 : q = 0
  ·have hd : decide (0 < q) = false := by simp [h0]
   have hfin : gI a b = p := by rw [← Hg.out, h0, gI_zero _ hp]
   have Hf := Lib.hid hfin
   clear hfin h0
   go_wp2
   go_ret
   exact ⟨by rw [Hf.out]; rfl, _, rfl⟩
  ·have hd : decide (0 < q) = true := by simp; omega
   have hq1 : 1 ≤ q := by omega
   have hm := Int.emod_lt_of_pos p (by omega : 0 < q)
   have hm0 := Int.emod_nonneg p (by omega : q ≠ 0)
   go_wp2
   go_quiet (fail)
   go_wp2
   go_roundw
   case rel => exact ⟨q, p % q, _, by omega, by omega, by omega, by omega, rfl, rfl, by rw [gI_step]; exact Hg.out, World.drewN_drewN _ _ _⟩
   case measure => simp [intOf]; omega

theorem assert_errno (v : Value) (w : World) : (Instr.typeAssert (.iface 49 v) 29 49 true).run Tryz.prog w = .ok (.tuple #[v, .bool true]) w := by kernel_rfl

set_option maxHeartbeats 400000 in
theorem num_any (c : Int) (w : World) :
  Calls Tryz.prog 9 #[errV c] w fun e w' => e = .returned (.int .i64 c) ∧ w = w' := by
 by_cases h : c = 0
 ·subst h
  rw [errV_0]
  go_enter Tryz.func9, Tryz.ntmps9
  go_wp2
  go_ret
  exact ⟨rfl, rfl⟩
 ·have e : errV c = .iface 49 (.int .i64 c) := by unfold errV; rw [if_neg h]
  rw [e]
  clear e
  have ta := assert_errno
  go_enter Tryz.func9, Tryz.ntmps9
  go_wp2
  go_ret
  exact ⟨rfl, rfl⟩

set_option maxHeartbeats 1000000 in
theorem rproper_any (n d : Int) (w : World) :
  Calls Tryz.prog 104 #[.agg #[.int .i64 n, .int .i64 d]] w fun e w' => e = .returned (.bool (prB n d)) ∧ Below w.heap.size w w' := by
 by_cases c1 : 1 ≤ d
 ·by_cases c2 : d ≤ 1048576
  ·by_cases c3 : -1099511627776 ≤ n
   ·by_cases c4 : n ≤ 1099511627776
    ·have H := Lib.hid (show prB n d = (gI n d == 1) by unfold prB; rw [Bool.eq_iff_iff]; simp; omega)
     have a1 := aI_nonneg n
     have a2 := aI_le n 1099511627776 (by omega) c4
     have hg := gI_aI n d
     go_enter Tryz.func104, Tryz.ntmps104
     go_wp2
     go_quiet ((first | (go_at_call 79; exact quiet_left (size_any _ _ (by omega) (by omega))) | (go_at_call 103; exact quiet_n (rgcd_any _ _ _ (by omega) (by omega) (by omega) (by omega)))))
     go_wp2
     go_ret
     exact ⟨by rw [H.out]; rfl, below_dN ((Below.refl _ _).alloc (Nat.le_refl _) _) _⟩
    ·have H := Lib.hid (show prB n d = false by unfold prB; simp; omega)
     have hd : decide (n ≤ 1099511627776) = false := by simpa using c4
     go_enter Tryz.func104, Tryz.ntmps104
     go_wp2
     go_quiet (fail)
     go_wp2
     go_ret
     exact ⟨by rw [H.out]; rfl, below_dN ((Below.refl _ _).alloc (Nat.le_refl _) _) _⟩
   ·have H := Lib.hid (show prB n d = false by unfold prB; simp; omega)
    have hd : decide (-1099511627776 ≤ n) = false := by simpa using c3
    go_enter Tryz.func104, Tryz.ntmps104
    go_wp2
    go_quiet (fail)
    go_wp2
    go_ret
    exact ⟨by rw [H.out]; rfl, below_dN ((Below.refl _ _).alloc (Nat.le_refl _) _) _⟩
  ·have H := Lib.hid (show prB n d = false by unfold prB; simp; omega)
   have hd : decide (d ≤ 1048576) = false := by simpa using c2
   go_enter Tryz.func104, Tryz.ntmps104
   go_wp2
   go_quiet (fail)
   go_wp2
   go_ret
   exact ⟨by rw [H.out]; rfl, below_dN ((Below.refl _ _).alloc (Nat.le_refl _) _) _⟩
 ·have H := Lib.hid (show prB n d = false by unfold prB; simp; omega)
  have hd : decide (1 ≤ d) = false := by simpa using c1
  go_enter Tryz.func104, Tryz.ntmps104
  go_wp2
  go_quiet (fail)
  go_wp2
  go_ret
  exact ⟨by rw [H.out]; rfl, below_dN ((Below.refl _ _).alloc (Nat.le_refl _) _) _⟩
end

section
open Go.RowKit
set_option linter.unusedVariables false

/-- made. -/
def madeF (minus : Bool) (num den : Int) : Int × Int × Int :=
 if num / gI num den > 1099511627776 ∨ den / gI num den > 1048576 then (0, 0, 5)
 else (if minus then -(num / gI num den) else num / gI num den, den / gI num den, 0)

/-- What a call leaves: a fraction, a code. -/
def RetFC (r : Int × Int × Int) (w : World) (e : Ending) (w' : World) : Prop :=
 e = .returned (.tuple #[.agg #[.int .i64 r.1, .int .i64 r.2.1], .int .i64 r.2.2]) ∧ Below w.heap.size w w'
theorem RetFC.mk {r : Int × Int × Int} {w : World} {e : Ending} {w' : World} (h : e = .returned (.tuple #[.agg #[.int .i64 r.1, .int .i64 r.2.1], .int .i64 r.2.2])) (hb : Below w.heap.size w w') : RetFC r w e w' := ⟨h, hb⟩

set_option maxHeartbeats 1000000 in
theorem made_any (minus : Bool) (n d : Int) (w : World) (hn1 : 0 ≤ n) (hn2 : n ≤ 18446744073709551615) (hd1 : 1 ≤ d) (hd2 : d ≤ 18446744073709551615) :
  Calls Tryz.prog 78 #[.bool minus, .int .u64 n, .int .u64 d] w (RetFC (madeF minus n d) w) := by
 have g1 := gI_pos n d hd1
 have g2 := gI_le n d hd1
 obtain ⟨t1, t2⟩ := ediv_bound n (gI n d) g1 hn1
 obtain ⟨e1, e2⟩ := ediv_bound d (gI n d) g1 (by omega)
 by_cases l1 : 1099511627776 < n / gI n d
 ·have H := Lib.hid (show madeF minus n d = (0, 0, 5) by unfold madeF; rw [if_pos (Or.inl l1)])
  have hl : decide (1099511627776 < n / gI n d) = true := by simpa using l1
  go_enter Tryz.func78, Tryz.ntmps78
  go_wp2_with (go_at_call 103; refine (rgcd_any _ _ _ (by omega) (by omega) (by omega) (by omega)).mono ?_; rintro e w' ⟨rfl, nq, rfl⟩)
  go_quiet (fail)
  go_wp2
  refine bodyPost_ret (v := .tuple #[.agg #[.int .i64 0, .int .i64 0], .int .i64 5]) (by simp [results, Tryz.results78, go_sem]) rfl (RetFC.mk (by rw [H.out]) ?_)
  repeat (first | exact Below.refl _ _ | refine below_dN ?_ _ | refine Below.alloc ?_ (by simp) _ | refine Below.setCell ?_ (by simp) _)
 ·by_cases l2 : 1048576 < d / gI n d
  ·have H := Lib.hid (show madeF minus n d = (0, 0, 5) by unfold madeF; rw [if_pos (Or.inr l2)])
   have hl : decide (1099511627776 < n / gI n d) = false := by simpa using l1
   have hl2 : decide (1048576 < d / gI n d) = true := by simpa using l2
   go_enter Tryz.func78, Tryz.ntmps78
   go_wp2_with (go_at_call 103; refine (rgcd_any _ _ _ (by omega) (by omega) (by omega) (by omega)).mono ?_; rintro e w' ⟨rfl, nq, rfl⟩)
   go_quiet (fail)
   go_wp2
   refine bodyPost_ret (v := .tuple #[.agg #[.int .i64 0, .int .i64 0], .int .i64 5]) (by simp [results, Tryz.results78, go_sem]) rfl (RetFC.mk (by rw [H.out]) ?_)
   repeat (first | exact Below.refl _ _ | refine below_dN ?_ _ | refine Below.alloc ?_ (by simp) _ | refine Below.setCell ?_ (by simp) _)
  ·have hl : decide (1099511627776 < n / gI n d) = false := by simpa using l1
   have hl2 : decide (1048576 < d / gI n d) = false := by simpa using l2
   cases minus
   ·have H := Lib.hid (show madeF false n d = (n / gI n d, d / gI n d, 0) by unfold madeF; rw [if_neg (by omega)]; rfl)
    go_enter Tryz.func78, Tryz.ntmps78
    go_wp2_with (go_at_call 103; refine (rgcd_any _ _ _ (by omega) (by omega) (by omega) (by omega)).mono ?_; rintro e w' ⟨rfl, nq, rfl⟩)
    go_quiet (fail)
    go_wp2
    refine bodyPost_ret (v := .tuple #[.agg #[.int .i64 (n / gI n d), .int .i64 (d / gI n d)], .int .i64 0]) (by simp [results, Tryz.results78, go_sem]) rfl (RetFC.mk (by rw [H.out]) ?_)
    repeat (first | exact Below.refl _ _ | refine below_dN ?_ _ | refine Below.alloc ?_ (by simp) _ | refine Below.setCell ?_ (by simp) _)
   ·have H := Lib.hid (show madeF true n d = (-(n / gI n d), d / gI n d, 0) by unfold madeF; rw [if_neg (by omega)]; rfl)
    go_enter Tryz.func78, Tryz.ntmps78
    go_wp2_with (go_at_call 103; refine (rgcd_any _ _ _ (by omega) (by omega) (by omega) (by omega)).mono ?_; rintro e w' ⟨rfl, nq, rfl⟩)
    go_quiet (fail)
    go_wp2
    refine bodyPost_ret (v := .tuple #[.agg #[.int .i64 (-(n / gI n d)), .int .i64 (d / gI n d)], .int .i64 0]) (by simp [results, Tryz.results78, go_sem]) rfl (RetFC.mk (by rw [H.out]) ?_)
    repeat (first | exact Below.refl _ _ | refine below_dN ?_ _ | refine Below.alloc ?_ (by simp) _ | refine Below.setCell ?_ (by simp) _)

theorem tdiv_neg_case (n g : Int) (h : n < 0) : n.tdiv g = -((-n) / g) := by
 have : n = -(-n) := by omega
 rw [this, Int.neg_tdiv, Int.tdiv_eq_ediv_of_nonneg (by omega)]
 simp
theorem newG_made (n d : Int) (hd : 1 ≤ d) : newG n d = madeF (decide (n < 0)) (aI n) d := by
 unfold newG madeF
 rw [gI_aI]
 have g1 := gI_pos n d hd
 by_cases h : n < 0
 ·have e : aI n = -n := by unfold aI; omega
  have e2 := tdiv_neg_case n (gI n d) h
  have b := ediv_bound (-n) (gI n d) g1 (by omega)
  have e3 : aI (n.tdiv (gI n d)) = (-n) / gI n d := by rw [e2]; unfold aI; omega
  rw [e3, e2, e]
  simp [h]
 ·have e : aI n = n := by unfold aI; omega
  have e2 : n.tdiv (gI n d) = n / gI n d := Int.tdiv_eq_ediv_of_nonneg (by omega)
  have b := ediv_bound n (gI n d) g1 (by omega)
  have e3 : aI (n.tdiv (gI n d)) = n / gI n d := by rw [e2]; unfold aI; omega
  rw [e3, e2, e]
  simp [h]
theorem newF_made (n d : Int) (h0 : d ≠ 0) (h1 : n ≠ -9223372036854775808) (h2 : d ≠ -9223372036854775808) :
  newF n d = madeF (decide (n < 0) != decide (d < 0)) (aI n) (aI d) := by
 unfold newF
 rw [if_neg h0, if_neg (by omega)]
 by_cases h : d < 0
 ·rw [if_pos h, newG_made _ _ (by omega)]
  have e1 : aI d = -d := by unfold aI; omega
  have e2 : aI (-n) = aI n := by unfold aI; omega
  rw [e1, e2]
  by_cases hn : n = 0
  ·subst hn
   simp [h, madeF, aI]
  ·congr 1
   rw [Bool.eq_iff_iff]; simp; omega
 ·rw [if_neg h, newG_made _ _ (by omega)]
  have e1 : aI d = d := by unfold aI; omega
  rw [e1]; simp [h]

set_option maxHeartbeats 1000000 in
theorem rnew_any (n d : Int) (w : World) (hn1 : -9223372036854775808 ≤ n) (hn2 : n ≤ 9223372036854775807) (hd1 : -9223372036854775808 ≤ d) (hd2 : d ≤ 9223372036854775807) :
  Calls Tryz.prog 46 #[.int .i64 n, .int .i64 d] w (RetFC (newF n d) w) := by
 by_cases c0 : d = 0
 ·have H := Lib.hid (show newF n d = (0, 0, 22) by unfold newF; rw [if_pos c0])
  have b0 : (d == 0) = true := by simp [c0]
  clear c0 hd1 hd2
  go_enter Tryz.func46, Tryz.ntmps46
  go_wp2
  refine bodyPost_ret (v := .tuple #[.agg #[.int .i64 0, .int .i64 0], .int .i64 22]) (by simp [results, Tryz.results46, go_sem]) rfl (RetFC.mk (by rw [H.out]) ?_)
  repeat (first | exact Below.refl _ _ | refine below_dN ?_ _ | refine Below.alloc ?_ (by simp) _ | refine Below.setCell ?_ (by simp) _)
 by_cases c1 : n = -9223372036854775808
 ·have H := Lib.hid (show newF n d = (0, 0, 5) by unfold newF; rw [if_neg c0, if_pos (Or.inl c1)])
  have b0 : (d == 0) = false := by simp [c0]
  have b1 : (n == -9223372036854775808) = true := by simp [c1]
  clear c0 c1 hn1 hn2
  go_enter Tryz.func46, Tryz.ntmps46
  go_wp2
  refine bodyPost_ret (v := .tuple #[.agg #[.int .i64 0, .int .i64 0], .int .i64 5]) (by simp [results, Tryz.results46, go_sem]) rfl (RetFC.mk (by rw [H.out]) ?_)
  repeat (first | exact Below.refl _ _ | refine below_dN ?_ _ | refine Below.alloc ?_ (by simp) _ | refine Below.setCell ?_ (by simp) _)
 by_cases c2 : d = -9223372036854775808
 ·have H := Lib.hid (show newF n d = (0, 0, 5) by unfold newF; rw [if_neg c0, if_pos (Or.inr c2)])
  have b0 : (d == 0) = false := by simp [c0]
  have b1 : (n == -9223372036854775808) = false := by simp [c1]
  have b2 : (d == -9223372036854775808) = true := by simp [c2]
  clear c0 c2 hd1 hd2
  go_enter Tryz.func46, Tryz.ntmps46
  go_wp2
  refine bodyPost_ret (v := .tuple #[.agg #[.int .i64 0, .int .i64 0], .int .i64 5]) (by simp [results, Tryz.results46, go_sem]) rfl (RetFC.mk (by rw [H.out]) ?_)
  repeat (first | exact Below.refl _ _ | refine below_dN ?_ _ | refine Below.alloc ?_ (by simp) _ | refine Below.setCell ?_ (by simp) _)
 have b0 : (d == 0) = false := by simp [c0]
 have b1 : (n == -9223372036854775808) = false := by simp [c1]
 have b2 : (d == -9223372036854775808) = false := by simp [c2]
 have H := Lib.hid (newF_made n d c0 c1 c2)
 have a1 := aI_nonneg n
 have a2 := aI_le n 9223372036854775807 (by omega) hn2
 have a3 : 1 ≤ aI d := by unfold aI; omega
 have a4 := aI_le d 9223372036854775807 (by omega) hd2
 have hm := fun W => made_any (decide (n < 0) != decide (d < 0)) (aI n) (aI d) W a1 (by omega) a3 (by omega)
 rw [← H.out] at hm
 have Hm := Lib.hid hm
 clear hm
 obtain ⟨r, hr⟩ : ∃ r, newF n d = r := ⟨_, rfl⟩
 rw [hr] at Hm ⊢
 clear hr H
 go_enter Tryz.func46, Tryz.ntmps46
 go_wp2_with (first | (go_at_call 79; refine (size_any _ _ (by omega) (by omega)).mono ?_; rintro e w' ⟨rfl, rfl⟩) | (go_at_call 78; refine (Hm.out _).mono ?_; rintro e w' ⟨rfl, hb⟩; obtain ⟨hc, hf, hz, hlt, hle⟩ := cellsIf hb (by (try simp); exact rfl)))
 refine bodyPost_ret (v := .tuple #[.agg #[.int .i64 r.1, .int .i64 r.2.1], .int .i64 r.2.2]) (by simp [results, Tryz.results46, go_sem, hc]) rfl (RetFC.mk rfl ?_)
 exact bel
end

section
open Go.RowKit
set_option linter.unusedVariables false

theorem prB_bounds {n d : Int} (h : prB n d = true) : 1 ≤ d ∧ d ≤ 1048576 ∧ -1099511627776 ≤ n ∧ n ≤ 1099511627776 ∧ gI n d = 1 := by
 unfold prB at h; simpa using h
theorem mul_le (n e a b : Int) (h1 : -a ≤ n) (h2 : n ≤ a) (h3 : 0 ≤ e) (h4 : e ≤ b) : -(a * b) ≤ n * e ∧ n * e ≤ a * b := by
 have ha : 0 ≤ a := by omega
 constructor
 ·have k1 : n * e ≥ (-a) * e := Int.mul_le_mul_of_nonneg_right h1 h3
  have k2 : a * e ≤ a * b := Int.mul_le_mul_of_nonneg_left h4 ha
  rw [Int.neg_mul] at k1
  omega
 ·exact Int.le_trans (Int.mul_le_mul_of_nonneg_right h2 h3) (Int.mul_le_mul_of_nonneg_left h4 ha)
/-- The bounds of a sum's parts. -/
theorem sum_bounds {n d m e : Int} (h1 : prB n d = true) (h2 : prB m e = true) :
  -1152921504606846976 ≤ n * e ∧ n * e ≤ 1152921504606846976 ∧ -1152921504606846976 ≤ m * d ∧ m * d ≤ 1152921504606846976 ∧ 1 ≤ d * e ∧ d * e ≤ 1099511627776 := by
 obtain ⟨a1, a2, a3, a4, _⟩ := prB_bounds h1
 obtain ⟨b1, b2, b3, b4, _⟩ := prB_bounds h2
 have k1 := mul_le n e 1099511627776 1048576 a3 a4 (by omega) b2
 have k2 := mul_le m d 1099511627776 1048576 b3 b4 (by omega) a2
 have k3 := mul_le d e 1048576 1048576 (by omega) a2 (by omega) b2
 have k4 : 1 * 1 ≤ d * e := Int.mul_le_mul a1 b1 (by omega) (by omega)
 omega

def addF (n d m e : Int) : Int × Int × Int := if prB n d && prB m e then newF (n * e + m * d) (d * e) else (0, 0, 2)
def subF (n d m e : Int) : Int × Int × Int := if prB n d && prB m e then newF (n * e - m * d) (d * e) else (0, 0, 2)

set_option maxHeartbeats 1000000 in
theorem add_any (n d m e : Int) (w : World) :
  Calls Tryz.prog 102 #[.agg #[.int .i64 n, .int .i64 d], .agg #[.int .i64 m, .int .i64 e]] w (RetFE (addF n d m e) w) := by
 by_cases p1 : prB n d = true
 ·by_cases p2 : prB m e = true
  ·obtain ⟨k1, k2, k3, k4, k5, k6⟩ := sum_bounds p1 p2
   have hn := fun W => new_any (n * e + m * d) (d * e) W (by omega) (by omega) (by omega) (by omega)
   have Hn := Lib.hid hn
   clear hn
   have es : addF n d m e = newF (n * e + m * d) (d * e) := by unfold addF; rw [p1, p2]; rfl
   rw [es]
   clear es
   obtain ⟨r, hr⟩ : ∃ r, newF (n * e + m * d) (d * e) = r := ⟨_, rfl⟩
   rw [hr] at Hn ⊢
   clear hr
   go_enter Tryz.func102, Tryz.ntmps102
   go_wp2_with (first | (go_at_call 89; refine (proper_any _ _ _).mono ?_; rintro e w' ⟨rfl, hb⟩; obtain ⟨hc, hf, hz, hlt, hle⟩ := cellsIf hb (by (try simp); exact rfl)) | (go_at_call 26; refine (Hn.out _).mono ?_; rintro e w' ⟨rfl, hb⟩; obtain ⟨hc, hf, hz, hlt, hle⟩ := cellsIf hb (by (try simp); exact rfl)))
   refine bodyPost_ret (v := .tuple #[.agg #[.int .i64 r.1, .int .i64 r.2.1], errV r.2.2]) (by simp [results, Tryz.results102, go_sem, ↓IntWalk.iteOmega, *]) rfl (RetFE.mk rfl ?_)
   exact bel
  ·have p3 : prB m e = false := by simpa using p2
   have H := Lib.hid (show addF n d m e = (0, 0, 2) by unfold addF; rw [p1, p3]; rfl)
   go_enter Tryz.func102, Tryz.ntmps102
   go_wp2_with (go_at_call 89; refine (proper_any _ _ _).mono ?_; rintro e w' ⟨rfl, hb⟩; obtain ⟨hc, hf, hz, hlt, hle⟩ := cellsIf hb (by (try simp); exact rfl))
   refine bodyPost_ret (v := .tuple #[.agg #[.int .i64 0, .int .i64 0], .iface 49 (.int .i64 2)]) (by simp [results, Tryz.results102, go_sem, ↓IntWalk.iteOmega, *]) rfl (RetFE.mk (by rw [H.out]; rfl) ?_)
   exact bel
 ·have p3 : prB n d = false := by simpa using p1
  have H := Lib.hid (show addF n d m e = (0, 0, 2) by unfold addF; rw [p3]; rfl)
  go_enter Tryz.func102, Tryz.ntmps102
  go_wp2_with (go_at_call 89; refine (proper_any _ _ _).mono ?_; rintro e w' ⟨rfl, hb⟩; obtain ⟨hc, hf, hz, hlt, hle⟩ := cellsIf hb (by (try simp); exact rfl))
  refine bodyPost_ret (v := .tuple #[.agg #[.int .i64 0, .int .i64 0], .iface 49 (.int .i64 2)]) (by simp [results, Tryz.results102, go_sem, ↓IntWalk.iteOmega, *]) rfl (RetFE.mk (by rw [H.out]; rfl) ?_)
  exact bel

set_option maxHeartbeats 1000000 in
theorem sub_any (n d m e : Int) (w : World) :
  Calls Tryz.prog 121 #[.agg #[.int .i64 n, .int .i64 d], .agg #[.int .i64 m, .int .i64 e]] w (RetFE (subF n d m e) w) := by
 by_cases p1 : prB n d = true
 ·by_cases p2 : prB m e = true
  ·obtain ⟨k1, k2, k3, k4, k5, k6⟩ := sum_bounds p1 p2
   have hn := fun W => new_any (n * e - m * d) (d * e) W (by omega) (by omega) (by omega) (by omega)
   have Hn := Lib.hid hn
   clear hn
   have es : subF n d m e = newF (n * e - m * d) (d * e) := by unfold subF; rw [p1, p2]; rfl
   rw [es]
   clear es
   obtain ⟨r, hr⟩ : ∃ r, newF (n * e - m * d) (d * e) = r := ⟨_, rfl⟩
   rw [hr] at Hn ⊢
   clear hr
   go_enter Tryz.func121, Tryz.ntmps121
   go_wp2_with (first | (go_at_call 89; refine (proper_any _ _ _).mono ?_; rintro e w' ⟨rfl, hb⟩; obtain ⟨hc, hf, hz, hlt, hle⟩ := cellsIf hb (by (try simp); exact rfl)) | (go_at_call 26; refine (Hn.out _).mono ?_; rintro e w' ⟨rfl, hb⟩; obtain ⟨hc, hf, hz, hlt, hle⟩ := cellsIf hb (by (try simp); exact rfl)))
   refine bodyPost_ret (v := .tuple #[.agg #[.int .i64 r.1, .int .i64 r.2.1], errV r.2.2]) (by simp [results, Tryz.results121, go_sem, ↓IntWalk.iteOmega, *]) rfl (RetFE.mk rfl ?_)
   exact bel
  ·have p3 : prB m e = false := by simpa using p2
   have H := Lib.hid (show subF n d m e = (0, 0, 2) by unfold subF; rw [p1, p3]; rfl)
   go_enter Tryz.func121, Tryz.ntmps121
   go_wp2_with (go_at_call 89; refine (proper_any _ _ _).mono ?_; rintro e w' ⟨rfl, hb⟩; obtain ⟨hc, hf, hz, hlt, hle⟩ := cellsIf hb (by (try simp); exact rfl))
   refine bodyPost_ret (v := .tuple #[.agg #[.int .i64 0, .int .i64 0], .iface 49 (.int .i64 2)]) (by simp [results, Tryz.results121, go_sem, ↓IntWalk.iteOmega, *]) rfl (RetFE.mk (by rw [H.out]; rfl) ?_)
   exact bel
 ·have p3 : prB n d = false := by simpa using p1
  have H := Lib.hid (show subF n d m e = (0, 0, 2) by unfold subF; rw [p3]; rfl)
  go_enter Tryz.func121, Tryz.ntmps121
  go_wp2_with (go_at_call 89; refine (proper_any _ _ _).mono ?_; rintro e w' ⟨rfl, hb⟩; obtain ⟨hc, hf, hz, hlt, hle⟩ := cellsIf hb (by (try simp); exact rfl))
  refine bodyPost_ret (v := .tuple #[.agg #[.int .i64 0, .int .i64 0], .iface 49 (.int .i64 2)]) (by simp [results, Tryz.results121, go_sem, ↓IntWalk.iteOmega, *]) rfl (RetFE.mk (by rw [H.out]; rfl) ?_)
  exact bel

set_option maxHeartbeats 1000000 in
theorem radd_any (n d m e : Int) (w : World) :
  Calls Tryz.prog 86 #[.agg #[.int .i64 n, .int .i64 d], .agg #[.int .i64 m, .int .i64 e]] w (RetFC (addF n d m e) w) := by
 by_cases p1 : prB n d = true
 ·by_cases p2 : prB m e = true
  ·obtain ⟨k1, k2, k3, k4, k5, k6⟩ := sum_bounds p1 p2
   have hn := fun W => rnew_any (n * e + m * d) (d * e) W (by omega) (by omega) (by omega) (by omega)
   have Hn := Lib.hid hn
   clear hn
   have es : addF n d m e = newF (n * e + m * d) (d * e) := by unfold addF; rw [p1, p2]; rfl
   rw [es]
   clear es
   obtain ⟨r, hr⟩ : ∃ r, newF (n * e + m * d) (d * e) = r := ⟨_, rfl⟩
   rw [hr] at Hn ⊢
   clear hr
   go_enter Tryz.func86, Tryz.ntmps86
   go_wp2_with (first | (go_at_call 104; refine (rproper_any _ _ _).mono ?_; rintro e w' ⟨rfl, hb⟩; obtain ⟨hc, hf, hz, hlt, hle⟩ := cellsIf hb (by (try simp); exact rfl)) | (go_at_call 46; refine (Hn.out _).mono ?_; rintro e w' ⟨rfl, hb⟩; obtain ⟨hc, hf, hz, hlt, hle⟩ := cellsIf hb (by (try simp); exact rfl)))
   refine bodyPost_ret (v := .tuple #[.agg #[.int .i64 r.1, .int .i64 r.2.1], .int .i64 r.2.2]) (by simp [results, Tryz.results86, go_sem, ↓IntWalk.iteOmega, *]) rfl (RetFC.mk rfl ?_)
   exact bel
  ·have p3 : prB m e = false := by simpa using p2
   have H := Lib.hid (show addF n d m e = (0, 0, 2) by unfold addF; rw [p1, p3]; rfl)
   go_enter Tryz.func86, Tryz.ntmps86
   go_wp2_with (go_at_call 104; refine (rproper_any _ _ _).mono ?_; rintro e w' ⟨rfl, hb⟩; obtain ⟨hc, hf, hz, hlt, hle⟩ := cellsIf hb (by (try simp); exact rfl))
   refine bodyPost_ret (v := .tuple #[.agg #[.int .i64 0, .int .i64 0], .int .i64 2]) (by simp [results, Tryz.results86, go_sem, ↓IntWalk.iteOmega, *]) rfl (RetFC.mk (by rw [H.out]) ?_)
   exact bel
 ·have p3 : prB n d = false := by simpa using p1
  have H := Lib.hid (show addF n d m e = (0, 0, 2) by unfold addF; rw [p3]; rfl)
  go_enter Tryz.func86, Tryz.ntmps86
  go_wp2_with (go_at_call 104; refine (rproper_any _ _ _).mono ?_; rintro e w' ⟨rfl, hb⟩; obtain ⟨hc, hf, hz, hlt, hle⟩ := cellsIf hb (by (try simp); exact rfl))
  refine bodyPost_ret (v := .tuple #[.agg #[.int .i64 0, .int .i64 0], .int .i64 2]) (by simp [results, Tryz.results86, go_sem, ↓IntWalk.iteOmega, *]) rfl (RetFC.mk (by rw [H.out]) ?_)
  exact bel

set_option maxHeartbeats 400000 in
theorem neg_any (n d : Int) (w : World) (h1 : -9223372036854775807 ≤ n) (h2 : n ≤ 9223372036854775807) :
  Calls Tryz.prog 85 #[.agg #[.int .i64 n, .int .i64 d]] w fun e w' => e = .returned (.agg #[.int .i64 (-n), .int .i64 d]) ∧ Below w.heap.size w w' := by
 go_enter Tryz.func85, Tryz.ntmps85
 go_wp2
 refine bodyPost_ret (v := .agg #[.int .i64 (-n), .int .i64 d]) (by simp [results, Tryz.results85, go_sem]) rfl ⟨rfl, ?_⟩
 exact bel
end

section
/-- A rational number as a fraction, or ErrLarge. -/
def toF (r : Rat) : Int × Int × Int :=
 if aI r.num > 1099511627776 ∨ (r.den : Int) > 1048576 then (0, 0, 5) else (r.num, r.den, 0)

theorem num_pos (n d : Int) (hd : 1 ≤ d) : (Rat.divInt n d).num = n.tdiv (gI n d) := by
 rw [Rat.num_divInt, Int.sign_eq_one_of_pos (by omega), Int.one_mul]
 unfold gI
 rw [Int.gcd_comm d n, Int.tdiv_eq_ediv_of_dvd (Int.gcd_dvd_left n d)]
theorem den_pos (n d : Int) (hd : 1 ≤ d) : ((Rat.divInt n d).den : Int) = d / gI n d := by
 rw [Rat.den_divInt, if_neg (by omega)]
 unfold gI
 rw [Int.gcd_comm d n, Int.natCast_ediv, Int.natAbs_of_nonneg (by omega)]
theorem newG_rat (n d : Int) (hd : 1 ≤ d) : newG n d = toF (Rat.divInt n d) := by
 unfold newG toF
 rw [num_pos n d hd, den_pos n d hd]
theorem newF_rat (n d : Int) (h0 : d ≠ 0) (h1 : n ≠ -9223372036854775808) (h2 : d ≠ -9223372036854775808) : newF n d = toF (Rat.divInt n d) := by
 unfold newF
 rw [if_neg h0, if_neg (by omega)]
 by_cases h : d < 0
 ·rw [if_pos h, newG_rat _ _ (by omega), Rat.neg_divInt_neg]
 ·rw [if_neg h, newG_rat _ _ (by omega)]
theorem red_gI (r : Rat) : gI r.num r.den = 1 := by
 unfold gI
 have := r.reduced
 unfold Nat.Coprime at this
 simp [Int.gcd, this]
theorem toF_ok (r : Rat) (h1 : aI r.num ≤ 1099511627776) (h2 : (r.den : Int) ≤ 1048576) : toF r = (r.num, (r.den : Int), 0) ∧ prB r.num r.den = true := by
 have := r.den_pos
 refine ⟨by unfold toF; rw [if_neg (by omega)], ?_⟩
 have := red_gI r
 unfold aI at h1
 unfold prB; simp only [decide_eq_true_eq]; omega
theorem toF_large (r : Rat) (h : ¬ (aI r.num ≤ 1099511627776 ∧ (r.den : Int) ≤ 1048576)) : toF r = (0, 0, 5) := by
 unfold toF; rw [if_pos (by omega)]
/-- A proper fraction is its rational number. -/
theorem prB_rat {n d : Int} (h : prB n d = true) : (Rat.divInt n d).num = n ∧ ((Rat.divInt n d).den : Int) = d := by
 unfold prB at h; simp only [decide_eq_true_eq] at h
 obtain ⟨h1, _, _, _, hg⟩ := h
 rw [num_pos n d h1, den_pos n d h1, hg]
 simp
theorem addF_rat {n d m e : Int} (h1 : prB n d = true) (h2 : prB m e = true) : addF n d m e = toF (Rat.divInt n d + Rat.divInt m e) := by
 obtain ⟨a1, a2, a3, a4, _⟩ := prB_bounds h1
 obtain ⟨b1, b2, b3, b4, _⟩ := prB_bounds h2
 obtain ⟨k1, k2, k3, k4, k5, k6⟩ := sum_bounds h1 h2
 unfold addF
 rw [h1, h2, Rat.divInt_add_divInt _ _ (by omega) (by omega)]
 exact newF_rat _ _ (by omega) (by omega) (by omega)
theorem subF_rat {n d m e : Int} (h1 : prB n d = true) (h2 : prB m e = true) : subF n d m e = toF (Rat.divInt n d - Rat.divInt m e) := by
 obtain ⟨a1, a2, a3, a4, _⟩ := prB_bounds h1
 obtain ⟨b1, b2, b3, b4, _⟩ := prB_bounds h2
 obtain ⟨k1, k2, k3, k4, k5, k6⟩ := sum_bounds h1 h2
 unfold subF
 rw [h1, h2, Rat.divInt_sub_divInt _ _ (by omega) (by omega)]
 exact newF_rat _ _ (by omega) (by omega) (by omega)
end

end Go.Proofs.YtaampjhdgeoicaaGreat

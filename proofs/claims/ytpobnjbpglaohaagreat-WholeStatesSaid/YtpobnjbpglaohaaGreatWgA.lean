/- Texts laid together: Base, Data, TaskD, TaskB, TaskC, RankP, Mat, Reg, RegA, App, Own, Cif, Fac. -/
import Derived.Test.YtpobnjbpglaohaaGreatRows
import Derived.WalkKit
import Derived.WalkSpells
import Derived.WalkLawsBesides
import Derived.Deep.QuietTactic
import Derived.BigQuiet
import Derived.Lib.Hide
import Derived.RegionTactic
import Derived.BigRegion
import Derived.LoopTactic
import Derived.Deep.LoopGhost
import Derived.Deep.DeepCutAuto
import Derived.Deep.OwnRows
import Derived.OrdersHeld
import Derived.Deep.RegionHeld
import Derived.Maps.AppendAt
import Derived.Laws.AppendOwnNone
import Derived.Deep.RegionHeld3
import Derived.Deep.AppendLies
namespace Go.Proofs.YtpobnjbpglaohaaGreat
set_option linter.unusedSimpArgs false
set_option linter.unusedVariables false
section
open Go.RowKit

theorem ret_int {k : IntKind} {a b : Int} (h : a = b) : Ending.returned (.int k a) = .returned (.int k b) := by rw [h]
theorem bool_ret {a b : Bool} (h : a = b) : Ending.returned (.bool a) = .returned (.bool b) := by rw [h]

theorem quiet_left {P : Program} {f : FuncId} {args : Array Value} {w : World} {n : Nat} {v : Value}
    (h : Calls P f args (w.drewN n) fun e w' => e = .returned v ∧ w.drewN n = w') : Calls P f args (w.drewN n) fun e w'' => e = .returned v ∧ ∃ m, w'' = w.drewN m :=
  h.mono fun _ _ ⟨he, hm⟩ => ⟨he, n, hm.symm⟩
theorem quiet_n {P : Program} {f : FuncId} {args : Array Value} {w : World} {n : Nat} {v : Value}
    (h : Calls P f args (w.drewN n) fun e w' => e = .returned v ∧ ∃ m, w' = (w.drewN n).drewN m) : Calls P f args (w.drewN n) fun e w'' => e = .returned v ∧ ∃ m, w'' = w.drewN m :=
  h.mono fun _ _ ⟨he, m, hm⟩ => ⟨he, n + m, by rw [hm, World.drewN_drewN]⟩

theorem below_dN {B : Nat} {a w : World} (h : Below B a w) (n : Nat) : Below B a (w.drewN n) := ⟨h.os, h.tape, h.output, h.size, h.block⟩
theorem below_step {B : Nat} {w X w' : World} (h : Below X.heap.size X w') (hs : B ≤ X.heap.size) (h0 : Below B w X) : Below B w w' := h0.trans (h.mono hs)

theorem bcell {W w1 : World} (hb : Below W.heap.size W w1) : (∀ b o, b < W.heap.size → w1.cell? ⟨b, o, none⟩ = W.cell? ⟨b, o, none⟩) ∧ (∀ b o, b < W.heap.size → w1.frozen? ⟨b, o, none⟩ = W.frozen? ⟨b, o, none⟩) :=
  ⟨fun b o h => hb.cell (p := ⟨b, o, none⟩) h, fun b o h => hb.frozen (p := ⟨b, o, none⟩) h⟩

theorem lt_s (a b : Nat) (h : a ≤ b) : a < b + 1 := Nat.lt_succ_of_le h
theorem le_s (a b : Nat) (h : a ≤ b) : a ≤ b + 1 := Nat.le_succ_of_le h
attribute [go_sem] lt_s le_s

/-- A cell, a mark, behind a name that the walk does not open. -/
def hidC (w : World) (b o : Nat) : Option Value := w.cell? ⟨b, o, none⟩
def hidF (w : World) (b o : Nat) : Bool := w.frozen? ⟨b, o, none⟩
/-- What a call has left, as rules for the walk: 'if', which it decides by linear arithmetic. -/
theorem cellsIf {B : Nat} {W w1 : World} (hb : Below W.heap.size W w1) (hB : W.heap.size = B) :
    (∀ b o, w1.cell? ⟨b, o, none⟩ = if b < B then W.cell? ⟨b, o, none⟩ else hidC w1 b o) ∧ (∀ b o, w1.frozen? ⟨b, o, none⟩ = if b < B then W.frozen? ⟨b, o, none⟩ else hidF w1 b o) ∧ B ≤ w1.heap.size ∧ (∀ b, b < B → b < w1.heap.size) ∧ (∀ b, b ≤ B → b ≤ w1.heap.size) := by
  subst hB
  refine ⟨fun b o => ?_, fun b o => ?_, hb.size, fun b h => Nat.lt_of_lt_of_le h hb.size, fun b h => Nat.le_trans h hb.size⟩
  · by_cases h : b < W.heap.size
    · rw [if_pos h]; exact hb.cell (p := ⟨b, o, none⟩) h
    · rw [if_neg h]; rfl
  · by_cases h : b < W.heap.size
    · rw [if_pos h]; exact hb.frozen (p := ⟨b, o, none⟩) h
    · rw [if_neg h]; rfl

/-- A world in which what was there in w0 is as it was. -/
structure Aft (w0 : World) where
  w : World
  below : Below w0.heap.size w0 w
instance (w0 : World) : Nonempty (Aft w0) := ⟨⟨w0, Below.refl _ _⟩⟩

section
variable {P : Program} {f : FuncId} {args : Array Value} {w0 : World} {x : Aft w0} {v : Value}
theorem aft_of (h : Calls P f args x.w fun e w' => e = .returned v ∧ Below x.w.heap.size x.w w') : Calls P f args x.w fun e w'' => e = .returned v ∧ ∃ y : Aft w0, w'' = y.w :=
  h.mono fun _ w' ⟨he, hb⟩ => ⟨he, ⟨w', below_step hb x.below.size x.below⟩, rfl⟩
theorem aft_same (h : Calls P f args x.w fun e w' => e = .returned v ∧ x.w = w') : Calls P f args x.w fun e w'' => e = .returned v ∧ ∃ y : Aft w0, w'' = y.w :=
  h.mono fun _ _ ⟨he, hb⟩ => ⟨he, x, hb.symm⟩
theorem aft_drew (h : Calls P f args x.w fun e w' => e = .returned v ∧ ∃ n, w' = x.w.drewN n) : Calls P f args x.w fun e w'' => e = .returned v ∧ ∃ y : Aft w0, w'' = y.w :=
  aft_of (h.mono fun _ _ ⟨he, n, hb⟩ => ⟨he, by rw [hb]; exact below_dN (Below.refl _ _) n⟩)
end

theorem aft_below {w w' : World} (h : ∃ x : Aft w, w' = x.w) : Below w.heap.size w w' := by
  obtain ⟨x, rfl⟩ := h
  exact x.below

/-- A region that draws its order, whose operations only read and whose calls leave what was there: one walk, in the text's order. -/
theorem wp_region_aft {P : Program} {id : Nat} {Q : Exit → Act → World → Prop} {a : Act} {w : World} {l : List Oper} {B : Nat} (hm : P.follows .mixedOrders = true) (hB : Region.lexB .any l.toArray = true) (hs : w.heap.size = B)
    (h : (∀ (x : Aft w) (b o : Nat), x.w.cell? ⟨b, o, none⟩ = if b < B then w.cell? ⟨b, o, none⟩ else hidC x.w b o) →
      wpQuiet P l.toArray (fun u => ∃ x : Aft w, u = x.w) (fun a' => ∀ w', (∃ x : Aft w, w' = x.w) → Q .normal a' w') l a) : (Code.region id l.toArray true).wp P Q a w :=
  wp_region_quiet (C := fun u => ∃ x : Aft w, u = x.w) hm hB ⟨⟨_, (Below.refl _ _).drew⟩, rfl⟩ (by simpa using h fun x => (cellsIf x.below hs).1)
end

section
open Go.RowKit

/-- The k-th number; the k-th fact's variable and value. (Behind names: simp would write them otherwise.) -/
def nth (l : List Int) (k : Nat) : Int := l.getD k 0
def fv (l : List (Int × Int)) (k : Nat) : Int := (l.getD k (0, 0)).1
def fx (l : List (Int × Int)) (k : Nat) : Int := (l.getD k (0, 0)).2

/-- A slice (address A) whose cells, all below block B, are the numbers l. -/
def IntsAt (w : World) (B : Nat) (A : Option Addr) (l : List Int) : Prop :=
  l.length ≤ 140737488355328 ∧ (0 < l.length → ∃ b off, A = some ⟨b, off, none⟩ ∧ b < B ∧ ∀ k, k < l.length → w.cell? ⟨b, off + k, none⟩ = some (.int .i64 (nth l k)))
/-- A slice of facts (two cells each). -/
def FactsAt (w : World) (B : Nat) (A : Option Addr) (l : List (Int × Int)) : Prop :=
  l.length ≤ 140737488355328 ∧ (0 < l.length → ∃ b off, A = some ⟨b, off, none⟩ ∧ b < B ∧ ∀ k, k < l.length → w.cell? ⟨b, off + k * 2, none⟩ = some (.int .i64 (fv l k)) ∧ w.cell? ⟨b, off + k * 2 + 1, none⟩ = some (.int .i64 (fx l k)))

section
variable {w w' : World} {B B' : Nat} {A : Option Addr}
theorem IntsAt.len {l : List Int} (h : IntsAt w B A l) : l.length ≤ 140737488355328 := h.1
theorem IntsAt.at_ {l : List Int} (h : IntsAt w B A l) {k : Nat} (hk : k < l.length) : ∃ b off, A = some ⟨b, off, none⟩ ∧ b < B ∧ ∀ k, k < l.length → w.cell? ⟨b, off + k, none⟩ = some (.int .i64 (nth l k)) := h.2 (by omega)
theorem IntsAt.keep {l : List Int} (h : IntsAt w B A l) (hk : ∀ p : Addr, p.block < B → w'.cell? p = w.cell? p) (hB : B ≤ B') : IntsAt w' B' A l :=
  ⟨h.1, fun hn => by
    obtain ⟨b, off, e, hb, hc⟩ := h.2 hn
    exact ⟨b, off, e, by omega, fun k hlt => (hk _ hb).trans (hc k hlt)⟩⟩
theorem IntsAt.below {l : List Int} (h : IntsAt w B A l) (hb : Below B w w') : IntsAt w' B A l := h.keep (fun _ hp => hb.cell hp) (Nat.le_refl _)
theorem FactsAt.len {l : List (Int × Int)} (h : FactsAt w B A l) : l.length ≤ 140737488355328 := h.1
theorem FactsAt.at_ {l : List (Int × Int)} (h : FactsAt w B A l) {k : Nat} (hk : k < l.length) : ∃ b off, A = some ⟨b, off, none⟩ ∧ b < B ∧ ∀ k, k < l.length → w.cell? ⟨b, off + k * 2, none⟩ = some (.int .i64 (fv l k)) ∧ w.cell? ⟨b, off + k * 2 + 1, none⟩ = some (.int .i64 (fx l k)) := h.2 (by omega)
theorem FactsAt.keep {l : List (Int × Int)} (h : FactsAt w B A l) (hk : ∀ p : Addr, p.block < B → w'.cell? p = w.cell? p) (hB : B ≤ B') : FactsAt w' B' A l :=
  ⟨h.1, fun hn => by
    obtain ⟨b, off, e, hb, hc⟩ := h.2 hn
    exact ⟨b, off, e, by omega, fun k hlt => ⟨(hk _ hb).trans (hc k hlt).1, (hk _ hb).trans (hc k hlt).2⟩⟩⟩
theorem FactsAt.below {l : List (Int × Int)} (h : FactsAt w B A l) (hb : Below B w w') : FactsAt w' B A l := h.keep (fun _ hp => hb.cell hp) (Nat.le_refl _)
end

/-- A state has a value in range for each variable. -/
def StP (vars s : List Int) : Prop := s.length = vars.length ∧ ∀ k, k < s.length → 0 ≤ nth s k ∧ nth s k < nth vars k
instance (vars s : List Int) : Decidable (StP vars s) := by unfold StP; exact inferInstance
def stB (vars s : List Int) : Bool := decide (StP vars s)
/-- Facts strictly ascending by variable, in range. -/
def FaP (vars : List Int) (f : List (Int × Int)) : Prop := ∀ k, k < f.length →
  0 ≤ (fv f k) ∧ (fv f k) < vars.length ∧ 0 ≤ (fx f k) ∧ (fx f k) < nth vars (fv f k).toNat ∧ (0 < k → fv f (k - 1) < (fv f k))
instance (vars : List Int) (f : List (Int × Int)) : Decidable (FaP vars f) := by unfold FaP; exact inferInstance
def faB (vars : List Int) (f : List (Int × Int)) : Bool := decide (FaP vars f)
/-- All facts hold. -/
def HoP (f : List (Int × Int)) (s : List Int) : Prop := ∀ k, k < f.length → 0 ≤ (fv f k) ∧ (fv f k) < s.length ∧ nth s (fv f k).toNat = (fx f k)
instance (f : List (Int × Int)) (s : List Int) : Decidable (HoP f s) := by unfold HoP; exact inferInstance
def hoB (f : List (Int × Int)) (s : List Int) : Bool := decide (HoP f s)
end

section
open Go.RowKit

structure Eff where
  whn : List (Int × Int)
  var : Int
  val : Int
structure Opr where
  name : ByteArray
  cost : Int
  pre : List (Int × Int)
  effs : List Eff
structure Tsk where
  vars : List Int
  init : List Int
  goal : List (Int × Int)
  ops : List Opr

def Eff.none : Eff := ⟨[], 0, 0⟩
def Opr.none : Opr := ⟨ByteArray.empty, 0, [], []⟩
def eff (l : List Eff) (k : Nat) : Eff := l.getD k Eff.none
def opr (l : List Opr) (k : Nat) : Opr := l.getD k Opr.none
theorem eff_mem {l : List Eff} {k : Nat} (h : k < l.length) : eff l k ∈ l := by unfold eff; simp [List.getD, List.getElem?_eq_getElem h]
theorem opr_mem {l : List Opr} {k : Nat} (h : k < l.length) : opr l k ∈ l := by unfold opr; simp [List.getD, List.getElem?_eq_getElem h]
theorem mem_eff {l : List Eff} {e : Eff} (h : e ∈ l) : ∃ k, k < l.length ∧ e = eff l k := by
  obtain ⟨k, hk, rfl⟩ := List.mem_iff_getElem.1 h
  exact ⟨k, hk, by unfold eff; simp [List.getD, List.getElem?_eq_getElem hk]⟩
theorem mem_opr {l : List Opr} {o : Opr} (h : o ∈ l) : ∃ k, k < l.length ∧ o = opr l k := by
  obtain ⟨k, hk, rfl⟩ := List.mem_iff_getElem.1 h
  exact ⟨k, hk, by unfold opr; simp [List.getD, List.getElem?_eq_getElem hk]⟩

/-- Effects: three cells each. -/
def EffsAt (w : World) (B : Nat) (A : Option Addr) (l : List Eff) : Prop :=
  l.length ≤ 140737488355328 ∧ (0 < l.length → ∃ b off, A = some ⟨b, off, none⟩ ∧ b < B ∧ ∀ k, k < l.length → ∃ S c,
    w.cell? ⟨b, off + k * 3, none⟩ = some (.slice S (eff l k).whn.length c) ∧ FactsAt w B S (eff l k).whn ∧
    w.cell? ⟨b, off + k * 3 + 1, none⟩ = some (.int .i64 (eff l k).var) ∧ w.cell? ⟨b, off + k * 3 + 2, none⟩ = some (.int .i64 (eff l k).val))
/-- Operators: four cells each. -/
def OpsAt (w : World) (B : Nat) (A : Option Addr) (l : List Opr) : Prop :=
  l.length ≤ 140737488355328 ∧ (0 < l.length → ∃ b off, A = some ⟨b, off, none⟩ ∧ b < B ∧ ∀ k, k < l.length → ∃ S c T d,
    w.cell? ⟨b, off + k * 4, none⟩ = some (.string (opr l k).name) ∧ (opr l k).name.size ≤ 140737488355328 ∧ w.cell? ⟨b, off + k * 4 + 1, none⟩ = some (.int .i64 (opr l k).cost) ∧
    w.cell? ⟨b, off + k * 4 + 2, none⟩ = some (.slice S (opr l k).pre.length c) ∧ FactsAt w B S (opr l k).pre ∧
    w.cell? ⟨b, off + k * 4 + 3, none⟩ = some (.slice T (opr l k).effs.length d) ∧ EffsAt w B T (opr l k).effs)
/-- Where a task's parts lie: four addresses, four capacities. -/
structure Lies where
  (av ai ag ao : Option Addr) (cv ci cg co : Nat)
def TaskV (t : Tsk) (p : Lies) : Value := .agg #[.slice p.av t.vars.length p.cv, .slice p.ai t.init.length p.ci, .slice p.ag t.goal.length p.cg, .slice p.ao t.ops.length p.co]
structure TaskAt (w : World) (B : Nat) (t : Tsk) (p : Lies) : Prop where
  vars : IntsAt w B p.av t.vars
  init : IntsAt w B p.ai t.init
  goal : FactsAt w B p.ag t.goal
  ops : OpsAt w B p.ao t.ops

section
variable {w w' : World} {B B' : Nat} {A : Option Addr}
theorem EffsAt.len {l : List Eff} (h : EffsAt w B A l) : l.length ≤ 140737488355328 := h.1
theorem EffsAt.at_ {l : List Eff} (h : EffsAt w B A l) {k : Nat} (hk : k < l.length) : ∃ b off, A = some ⟨b, off, none⟩ ∧ b < B ∧ ∃ S c,
    w.cell? ⟨b, off + k * 3, none⟩ = some (.slice S (eff l k).whn.length c) ∧ FactsAt w B S (eff l k).whn ∧
    w.cell? ⟨b, off + k * 3 + 1, none⟩ = some (.int .i64 (eff l k).var) ∧ w.cell? ⟨b, off + k * 3 + 2, none⟩ = some (.int .i64 (eff l k).val) := by
  obtain ⟨b, off, e, hb, hc⟩ := h.2 (by omega)
  exact ⟨b, off, e, hb, hc k hk⟩
theorem EffsAt.keep {l : List Eff} (h : EffsAt w B A l) (hk : ∀ p : Addr, p.block < B → w'.cell? p = w.cell? p) (hB : B ≤ B') : EffsAt w' B' A l :=
  ⟨h.1, fun hn => by
    obtain ⟨b, off, e, hb, hc⟩ := h.2 hn
    refine ⟨b, off, e, by omega, fun k hlt => ?_⟩
    obtain ⟨S, c, h1, h2, h3, h4⟩ := hc k hlt
    exact ⟨S, c, (hk _ hb).trans h1, h2.keep hk hB, (hk _ hb).trans h3, (hk _ hb).trans h4⟩⟩
theorem EffsAt.below {l : List Eff} (h : EffsAt w B A l) (hb : Below B w w') : EffsAt w' B A l := h.keep (fun _ hp => hb.cell hp) (Nat.le_refl _)
theorem OpsAt.len {l : List Opr} (h : OpsAt w B A l) : l.length ≤ 140737488355328 := h.1
theorem OpsAt.at_ {l : List Opr} (h : OpsAt w B A l) {k : Nat} (hk : k < l.length) : ∃ b off, A = some ⟨b, off, none⟩ ∧ b < B ∧ ∃ S c T d,
    w.cell? ⟨b, off + k * 4, none⟩ = some (.string (opr l k).name) ∧ (opr l k).name.size ≤ 140737488355328 ∧ w.cell? ⟨b, off + k * 4 + 1, none⟩ = some (.int .i64 (opr l k).cost) ∧
    w.cell? ⟨b, off + k * 4 + 2, none⟩ = some (.slice S (opr l k).pre.length c) ∧ FactsAt w B S (opr l k).pre ∧
    w.cell? ⟨b, off + k * 4 + 3, none⟩ = some (.slice T (opr l k).effs.length d) ∧ EffsAt w B T (opr l k).effs := by
  obtain ⟨b, off, e, hb, hc⟩ := h.2 (by omega)
  exact ⟨b, off, e, hb, hc k hk⟩
theorem OpsAt.keep {l : List Opr} (h : OpsAt w B A l) (hk : ∀ p : Addr, p.block < B → w'.cell? p = w.cell? p) (hB : B ≤ B') : OpsAt w' B' A l :=
  ⟨h.1, fun hn => by
    obtain ⟨b, off, e, hb, hc⟩ := h.2 hn
    refine ⟨b, off, e, by omega, fun k hlt => ?_⟩
    obtain ⟨S, c, T, d, h1, h2, h3, h4, h5, h6, h7⟩ := hc k hlt
    exact ⟨S, c, T, d, (hk _ hb).trans h1, h2, (hk _ hb).trans h3, (hk _ hb).trans h4, h5.keep hk hB, (hk _ hb).trans h6, h7.keep hk hB⟩⟩
theorem OpsAt.below {l : List Opr} (h : OpsAt w B A l) (hb : Below B w w') : OpsAt w' B A l := h.keep (fun _ hp => hb.cell hp) (Nat.le_refl _)
theorem TaskAt.keep {t : Tsk} {p : Lies} (h : TaskAt w B t p) (hk : ∀ p : Addr, p.block < B → w'.cell? p = w.cell? p) (hB : B ≤ B') : TaskAt w' B' t p :=
  ⟨h.vars.keep hk hB, h.init.keep hk hB, h.goal.keep hk hB, h.ops.keep hk hB⟩
theorem TaskAt.below {t : Tsk} {p : Lies} (h : TaskAt w B t p) (hb : Below B w w') : TaskAt w' B t p := h.keep (fun _ hp => hb.cell hp) (Nat.le_refl _)
/-- What lay in a world below its size lies in each later one, below that one's size. -/
theorem TaskAt.up {t : Tsk} {p : Lies} (h : TaskAt w w.heap.size t p) (hb : Below w.heap.size w w') : TaskAt w' w'.heap.size t p := h.keep (fun _ hp => hb.cell hp) hb.size
theorem IntsAt.up {l : List Int} (h : IntsAt w w.heap.size A l) (hb : Below w.heap.size w w') : IntsAt w' w'.heap.size A l := h.keep (fun _ hp => hb.cell hp) hb.size
theorem FactsAt.up {l : List (Int × Int)} (h : FactsAt w w.heap.size A l) (hb : Below w.heap.size w w') : FactsAt w' w'.heap.size A l := h.keep (fun _ hp => hb.cell hp) hb.size
end

/-- A task's value lies in the box b. -/
structure Boxed (w : World) (b : Nat) (t : Tsk) (p : Lies) : Prop where
  lt : b < w.heap.size
  c0 : w.cell? ⟨b, 0, none⟩ = some (.slice p.av t.vars.length p.cv)
  c1 : w.cell? ⟨b, 1, none⟩ = some (.slice p.ai t.init.length p.ci)
  c2 : w.cell? ⟨b, 2, none⟩ = some (.slice p.ag t.goal.length p.cg)
  c3 : w.cell? ⟨b, 3, none⟩ = some (.slice p.ao t.ops.length p.co)
theorem Boxed.up {w w' : World} {b : Nat} {t : Tsk} {p : Lies} (h : Boxed w b t p) (hb : Below w.heap.size w w') : Boxed w' b t p :=
  ⟨Nat.lt_of_lt_of_le h.lt hb.size, (hb.cell (p := ⟨b, 0, none⟩) h.lt).trans h.c0, (hb.cell (p := ⟨b, 1, none⟩) h.lt).trans h.c1, (hb.cell (p := ⟨b, 2, none⟩) h.lt).trans h.c2, (hb.cell (p := ⟨b, 3, none⟩) h.lt).trans h.c3⟩

/-- Does one of the first n have it? -/
def anyB (n : Nat) (g : Nat → Bool) : Bool := (List.range n).any g
theorem anyB_zero (g : Nat → Bool) : anyB 0 g = false := rfl
theorem anyB_succ (n : Nat) (g : Nat → Bool) : anyB (n + 1) g = (anyB n g || g n) := by unfold anyB; rw [List.range_succ, List.any_append]; simp
theorem anyB_true {n : Nat} {g : Nat → Bool} : anyB n g = true ↔ ∃ k, k < n ∧ g k = true := by unfold anyB; simp [List.any_eq_true]
theorem anyB_false {n : Nat} {g : Nat → Bool} : anyB n g = false ↔ ∀ k, k < n → g k = false := by unfold anyB; simp [List.any_eq_false]

/-- The name's byte k. -/
def byt (s : ByteArray) (k : Nat) : UInt8 := if h : k < s.size then s[k] else 0
theorem byt_eq {s : ByteArray} {k : Nat} (h : k < s.size) : byt s k = s[k] := by unfold byt; rw [dif_pos h]
/-- A byte that no name has. -/
def bad (s : ByteArray) (k : Nat) : Bool := decide (((byt s k).toNat : Int) < 32) || decide (126 < ((byt s k).toNat : Int))
def lgO (o : Opr) : Bool := (decide ((64 : Int) < o.pre.length) || decide ((64 : Int) < o.effs.length)) || anyB o.effs.length fun k => decide ((64 : Int) < (eff o.effs k).whn.length)
def lgT (t : Tsk) : Bool := ((decide ((64 : Int) < t.vars.length) || decide ((4096 : Int) < t.ops.length)) || decide ((64 : Int) < t.goal.length)) || anyB t.ops.length fun k => lgO (opr t.ops k)
def outT (t : Tsk) : Bool := (anyB t.vars.length fun k => decide (nth t.vars k < 1) || decide (64 < nth t.vars k)) || anyB t.ops.length fun k => decide ((opr t.ops k).cost < 0) || decide (1048576 < (opr t.ops k).cost)
def malE (vars : List Int) (e : Eff) : Bool := !faB vars e.whn || !faB vars [(e.var, e.val)]
def malO (vars : List Int) (o : Opr) : Bool := !faB vars o.pre || anyB o.effs.length fun k => malE vars (eff o.effs k)
def malT (t : Tsk) : Bool := (!stB t.vars t.init || !faB t.vars t.goal) || anyB t.ops.length fun k => malO t.vars (opr t.ops k)
def misO (s : ByteArray) : Bool := decide ((256 : Int) < s.size) || anyB s.size (bad s)
def misT (t : Tsk) : Bool := anyB t.ops.length fun k => misO (opr t.ops k).name
/-- The number of the error. -/
def chkC (t : Tsk) : Int := if lgT t then 5 else if outT t then 1 else if malT t then 2 else if misT t then 8 else 0

section
variable {w w' : World} {B : Nat} {A : Option Addr}
theorem EffsAt.at2 {l : List Eff} (h : EffsAt w B A l) (hb : Below B w w') {k : Nat} (hk : k < l.length) : ∃ b off S c, A = some ⟨b, off, none⟩ ∧ b < B ∧
    w'.cell? ⟨b, off + k * 3, none⟩ = some (.slice S (eff l k).whn.length c) ∧ FactsAt w B S (eff l k).whn ∧
    w'.cell? ⟨b, off + k * 3 + 1, none⟩ = some (.int .i64 (eff l k).var) ∧ w'.cell? ⟨b, off + k * 3 + 2, none⟩ = some (.int .i64 (eff l k).val) := by
  obtain ⟨b, off, e, hlt, S, c, h1, h2, h3, h4⟩ := h.at_ hk
  exact ⟨b, off, S, c, e, hlt, (hb.cell hlt).trans h1, h2, (hb.cell hlt).trans h3, (hb.cell hlt).trans h4⟩
theorem OpsAt.at2 {l : List Opr} (h : OpsAt w B A l) (hb : Below B w w') {k : Nat} (hk : k < l.length) : ∃ b off S c T d, A = some ⟨b, off, none⟩ ∧ b < B ∧
    w'.cell? ⟨b, off + k * 4, none⟩ = some (.string (opr l k).name) ∧ (opr l k).name.size ≤ 140737488355328 ∧ w'.cell? ⟨b, off + k * 4 + 1, none⟩ = some (.int .i64 (opr l k).cost) ∧
    w'.cell? ⟨b, off + k * 4 + 2, none⟩ = some (.slice S (opr l k).pre.length c) ∧ FactsAt w B S (opr l k).pre ∧
    w'.cell? ⟨b, off + k * 4 + 3, none⟩ = some (.slice T (opr l k).effs.length d) ∧ EffsAt w B T (opr l k).effs := by
  obtain ⟨b, off, e, hlt, S, c, T, d, h1, h2, h3, h4, h5, h6, h7⟩ := h.at_ hk
  exact ⟨b, off, S, c, T, d, e, hlt, (hb.cell hlt).trans h1, h2, (hb.cell hlt).trans h3, (hb.cell hlt).trans h4, h5, (hb.cell hlt).trans h6, h7⟩
end
end

section
open Go.RowKit
set_option linter.unusedVariables false

end

section
open Go.RowKit
set_option linter.unusedVariables false

set_option maxHeartbeats 1000000 in
theorem named_any (s : ByteArray) (w : World) (hs : s.size ≤ 140737488355328) :
    Calls Tryz.prog 55 #[.string s] w fun e w' => e = .returned (.bool (!misO s)) ∧ Below w.heap.size w w' := by
  go_enter Tryz.func55, Tryz.ntmps55
  go_wp2
  go_loopw [6] (fun i wr => ∃ (k : Nat), k ≤ s.size ∧ i = .int .i64 k ∧ anyB k (bad s) = false ∧ Below w.heap.size w wr) (fun i _ => s.size - (intOf i).toNat)
  case atStart => exact ⟨0, by omega, rfl, rfl, by repeat (first | exact Below.refl _ _ | refine below_dN ?_ _ | refine Below.drew ?_ | refine Below.alloc ?_ (by first | omega | (simp; done) | (simp; omega)) _ | refine Below.setCell ?_ (by first | omega | (simp; done) | (simp; omega)) _ | refine below_step (by assumption) (by first | omega | (simp; done) | (simp; omega)) ?_)⟩
  case round =>
    obtain ⟨k, hk, rfl, hB, hbel⟩ := hrel
    have HB := Lib.hid hB
    clear hB
    by_cases hlt : k < s.size
    · cases e1 : decide ((s[k].toNat : Int) < 32) <;> cases e2 : decide (126 < (s[k].toNat : Int)) <;> go_wp2
      all_goals first
        | (go_roundw
           case rel => exact ⟨k + 1, by omega, by go_num, (by rw [anyB_succ, HB.out]; unfold bad; rw [byt_eq hlt, e1, e2]; rfl), by repeat (first | exact Below.refl _ _ | refine below_dN ?_ _ | refine Below.drew ?_ | refine Below.alloc ?_ (by first | omega | (simp; done) | (simp; omega)) _ | refine Below.setCell ?_ (by first | omega | (simp; done) | (simp; omega)) _ | refine below_step (by assumption) (by first | omega | (simp; done) | (simp; omega)) ?_)⟩
           case measure => simp [intOf]; omega)
        | (go_ret
           refine ⟨bool_ret ?_, by repeat (first | exact Below.refl _ _ | refine below_dN ?_ _ | refine Below.drew ?_ | refine Below.alloc ?_ (by first | omega | (simp; done) | (simp; omega)) _ | refine Below.setCell ?_ (by first | omega | (simp; done) | (simp; omega)) _ | refine below_step (by assumption) (by first | omega | (simp; done) | (simp; omega)) ?_)⟩
           have hf : anyB s.size (bad s) = true := anyB_true.2 ⟨k, hlt, by unfold bad; rw [byt_eq hlt, e1, e2]; rfl⟩
           unfold misO
           rw [hf, Bool.or_true]; rfl)
    · cases e1 : decide ((s.size : Int) ≤ 256) <;>
        (go_wp2
         go_ret
         refine ⟨bool_ret ?_, by repeat (first | exact Below.refl _ _ | refine below_dN ?_ _ | refine Below.drew ?_ | refine Below.alloc ?_ (by first | omega | (simp; done) | (simp; omega)) _ | refine Below.setCell ?_ (by first | omega | (simp; done) | (simp; omega)) _ | refine below_step (by assumption) (by first | omega | (simp; done) | (simp; omega)) ?_)⟩
         unfold misO
         rw [show s.size = k by omega, HB.out, Bool.or_false]
         simp at e1 ⊢
         omega)

end

section
set_option linter.unusedVariables false

/-- The product of the first k numbers; at most one more than 65536. -/
def pr (l : List Int) : Nat → Int
  | 0 => 1
  | k + 1 => pr l k * nth l k
def mny (l : List Int) : Int := if 65536 < pr l l.length then 65537 else pr l l.length
theorem pr_pos {l : List Int} {n : Nat} (h : ∀ k, k < n → 1 ≤ nth l k) : 1 ≤ pr l n := by
  induction n with
  | zero => exact Int.le_refl _
  | succ n ih =>
    have h1 := ih fun k hk => h k (by omega)
    have h2 := h n (by omega)
    unfold pr
    have := Int.mul_le_mul h1 h2 (by omega) (by omega)
    omega
theorem pr_mono {l : List Int} {n : Nat} (h : ∀ k, k < n → 1 ≤ nth l k) {j : Nat} (hj : j ≤ n) : pr l j ≤ pr l n := by
  induction n with
  | zero => rw [show j = 0 by omega]; exact Int.le_refl _
  | succ n ih =>
    rcases Nat.lt_or_ge n j with h1 | h1
    · rw [show j = n + 1 by omega]; exact Int.le_refl _
    · have h2 := ih (fun k hk => h k (by omega)) h1
      have h3 := pr_pos (l := l) (n := n) fun k hk => h k (by omega)
      have h4 := h n (by omega)
      have h5 : pr l (n + 1) = pr l n * nth l n := rfl
      have h6 := Int.mul_le_mul_of_nonneg_left h4 (show 0 ≤ pr l n by omega)
      omega
theorem pr_step {l : List Int} {k : Nat} {M : Int} (h0 : 1 ≤ pr l k) (h1 : pr l k ≤ M) (h2 : 1 ≤ nth l k) (h3 : nth l k ≤ 64) (hM : M ≤ 65537) : 1 ≤ pr l k * nth l k ∧ pr l k * nth l k ≤ 4194368 := by
  have a := Int.mul_le_mul h0 h2 (by omega) (by omega)
  have b := Int.mul_le_mul h1 h3 (by omega) (by omega)
  omega

/-- The rank: mixed radix. -/
def rk (vars s : List Int) : Nat → Int
  | 0 => 0
  | k + 1 => rk vars s k * nth vars k + nth s k
theorem rk_bd {vars s : List Int} {n : Nat} (h : ∀ k, k < n → 0 ≤ nth s k ∧ nth s k < nth vars k) : 0 ≤ rk vars s n ∧ rk vars s n < pr vars n := by
  induction n with
  | zero => exact ⟨Int.le_refl _, by unfold rk pr; omega⟩
  | succ n ih =>
    have ⟨h1, h2⟩ := ih fun k hk => h k (by omega)
    have ⟨h3, h4⟩ := h n (by omega)
    have e1 : rk vars s (n + 1) = rk vars s n * nth vars n + nth s n := rfl
    have e2 : pr vars (n + 1) = pr vars n * nth vars n := rfl
    have a := Int.mul_nonneg h1 (show 0 ≤ nth vars n by omega)
    have b := Int.mul_le_mul_of_nonneg_right (show rk vars s n ≤ pr vars n - 1 by omega) (show 0 ≤ nth vars n by omega)
    rw [Int.sub_mul] at b
    omega

/-- What is left of n behind d digits; the digits. -/
def nd (vars : List Int) (n : Int) : Nat → Int
  | 0 => n
  | d + 1 => nd vars n d / nth vars (vars.length - 1 - d)
def od (vars : List Int) (n : Int) : Nat → List Int
  | 0 => List.replicate vars.length 0
  | d + 1 => (od vars n d).set (vars.length - 1 - d) (nd vars n d % nth vars (vars.length - 1 - d))
theorem od_len (vars : List Int) (n : Int) (d : Nat) : (od vars n d).length = vars.length := by
  induction d with
  | zero => simp [od]
  | succ d ih => unfold od; simp [ih]
theorem nth_set {l : List Int} {i j : Nat} {x : Int} (hi : i < l.length) : nth (l.set i x) j = if i = j then x else nth l j := by
  unfold nth
  simp only [List.getD, List.getElem?_set]
  split
  · simp [hi]
  · rfl
theorem od_get {vars : List Int} {n : Int} : ∀ (d : Nat), d ≤ vars.length → ∀ v, v < vars.length → vars.length - d ≤ v → nth (od vars n d) v = nd vars n (vars.length - 1 - v) % nth vars v
  | 0, _, v, hv, hd => by omega
  | d + 1, hl, v, hv, hd => by
    unfold od
    rw [nth_set (by rw [od_len]; omega)]
    split
    · rename_i h
      rw [show vars.length - 1 - v = d by omega, h]
    · exact od_get d (by omega) v hv (by omega)
theorem nd_bd {vars : List Int} {n : Int} (h : ∀ k, k < vars.length → 1 ≤ nth vars k) (h0 : 0 ≤ n) (h1 : n < pr vars vars.length) : ∀ (d : Nat), d ≤ vars.length → 0 ≤ nd vars n d ∧ nd vars n d < pr vars (vars.length - d)
  | 0, _ => ⟨h0, h1⟩
  | d + 1, hd => by
    have ⟨a, b⟩ := nd_bd h h0 h1 d (by omega)
    have hv := h (vars.length - 1 - d) (by omega)
    have e : nd vars n (d + 1) = nd vars n d / nth vars (vars.length - 1 - d) := rfl
    rw [e]
    refine ⟨Int.ediv_nonneg a (by omega), Int.ediv_lt_of_lt_mul (by omega) ?_⟩
    have e2 : pr vars (vars.length - d) = pr vars (vars.length - (d + 1)) * nth vars (vars.length - 1 - d) := by
      rw [show vars.length - d = (vars.length - (d + 1)) + 1 by omega, show vars.length - 1 - d = vars.length - (d + 1) by omega]; rfl
    omega
theorem rk_od {vars : List Int} {n : Int} (h : ∀ k, k < vars.length → 1 ≤ nth vars k) (h0 : 0 ≤ n) (h1 : n < pr vars vars.length) : ∀ (v : Nat), v ≤ vars.length → rk vars (od vars n vars.length) v = nd vars n (vars.length - v)
  | 0, _ => by
    have ⟨a, b⟩ := nd_bd h h0 h1 vars.length (Nat.le_refl _)
    rw [show vars.length - vars.length = 0 by omega] at b
    have : pr vars 0 = 1 := rfl
    show (0 : Int) = nd vars n (vars.length - 0)
    rw [show vars.length - 0 = vars.length by omega]
    omega
  | v + 1, hv => by
    have ih := rk_od h h0 h1 v (by omega)
    show rk vars (od vars n vars.length) v * nth vars v + nth (od vars n vars.length) v = _
    rw [ih, od_get vars.length (Nat.le_refl _) v (by omega) (by omega), show vars.length - v = (vars.length - 1 - v) + 1 by omega]
    have e : nd vars n ((vars.length - 1 - v) + 1) = nd vars n (vars.length - 1 - v) / nth vars v := by
      show nd vars n (vars.length - 1 - v) / nth vars (vars.length - 1 - (vars.length - 1 - v)) = _
      rw [show vars.length - 1 - (vars.length - 1 - v) = v by omega]
    rw [e, show vars.length - (v + 1) = vars.length - 1 - v by omega, Int.mul_comm]
    exact Int.mul_ediv_add_emod _ _
theorem od_st {vars : List Int} {n : Int} (h : ∀ k, k < vars.length → 1 ≤ nth vars k) : StP vars (od vars n vars.length) := by
  refine ⟨od_len _ _ _, fun k hk => ?_⟩
  rw [od_len] at hk
  rw [od_get vars.length (Nat.le_refl _) k hk (by omega)]
  have := h k hk
  exact ⟨Int.emod_nonneg _ (by omega), Int.emod_lt_of_pos _ (by omega)⟩
theorem rank_unrank {vars : List Int} {n : Int} (h : ∀ k, k < vars.length → 1 ≤ nth vars k) (h0 : 0 ≤ n) (h1 : n < pr vars vars.length) : rk vars (od vars n vars.length) vars.length = n := by
  rw [rk_od h h0 h1 _ (Nat.le_refl _), show vars.length - vars.length = 0 by omega]; rfl
end

section
open Go Go.RowKit
set_option linter.unusedVariables false

section
variable {w w' : World} {b : Nat} {t : TypeId} {n : Nat} {f g : Nat → Value}
theorem row_below {B : Nat} (h : w.rowIs b t n f) (hb : Below B w w') (hB : b < B) : w'.rowIs b t n f := h.of_block (hb.block b hB)
theorem row_up (h : w.rowIs b t n f) (hb : Below w.heap.size w w') : w'.rowIs b t n f := h.of_block (hb.block b h.lt)
theorem row_grown {row : Option Nat} (h : w.rowIs b t n f) (hg : w.grownBy w' row) (hr : some b ≠ row) : w'.rowIs b t n f := h.of_block (hg.block b h.lt hr)
theorem row_drewN (h : w.rowIs b t n f) (k : Nat) : (w.drewN k).rowIs b t n f := h
/-- A row's cells are a list of numbers. -/
theorem row_ints {l : List Int} (h : w.rowIs b t l.length fun i => .int .i64 (nth l i)) (hl : l.length ≤ 140737488355328) : IntsAt w w.heap.size (some ⟨b, 0, none⟩) l :=
  ⟨hl, fun _ => ⟨b, 0, rfl, h.lt, fun k hk => by simpa using h.cell hk⟩⟩
end

/-- A table of booleans: row j lies in block rb j, its length L j; the slices of the rows in block g. -/
structure MatIs (w : World) (g n : Nat) (rb L : Nat → Nat) (M : Nat → Nat → Bool) : Prop where
  glt : g < w.heap.size
  top : ∀ j, j < n → w.cell? ⟨g, j, none⟩ = some (.slice (some ⟨rb j, 0, none⟩) (L j) (L j))
  row : ∀ j, j < n → w.rowIs (rb j) 4 (L j) fun c => .bool (M j c)
  inj : ∀ i j, i < n → j < n → rb i = rb j → i = j
  ne : ∀ j, j < n → rb j ≠ g
section
variable {w w' : World} {g n : Nat} {rb L : Nat → Nat} {M : Nat → Nat → Bool}
theorem MatIs.of (h : MatIs w g n rb L M) (hs : w.heap.size ≤ w'.heap.size) (hg : w'.heap[g]? = w.heap[g]?) (hr : ∀ j, j < n → w'.heap[rb j]? = w.heap[rb j]?) : MatIs w' g n rb L M :=
  ⟨Nat.lt_of_lt_of_le h.glt hs, fun j hj => (World.cell?_of_block (w := w) (a := ⟨g, j, none⟩) hg).trans (h.top j hj), fun j hj => (h.row j hj).of_block (hr j hj), h.inj, h.ne⟩
theorem MatIs.up (h : MatIs w g n rb L M) (hb : Below w.heap.size w w') : MatIs w' g n rb L M :=
  h.of hb.size (hb.block _ h.glt) fun j hj => hb.block _ (h.row j hj).lt
theorem MatIs.alloc (h : MatIs w g n rb L M) (o : Obj) : MatIs (w.alloc o) g n rb L M := h.up ((Below.refl _ _).alloc (Nat.le_refl _) _)
theorem MatIs.drew (h : MatIs w g n rb L M) : MatIs w.drew g n rb L M := h.up (Below.refl _ _).drew
theorem MatIs.drewN (h : MatIs w g n rb L M) (k : Nat) : MatIs (w.drewN k) g n rb L M := h.up (below_dN (Below.refl _ _) k)
theorem MatIs.grown {r : Option Nat} (h : MatIs w g n rb L M) (hg : w.grownBy w' r) (h0 : some g ≠ r) (h1 : ∀ j, j < n → some (rb j) ≠ r) : MatIs w' g n rb L M :=
  h.of hg.size (hg.block _ h.glt h0) fun j hj => hg.block _ (h.row j hj).lt (h1 j hj)
theorem MatIs.far (h : MatIs w g n rb L M) {p : Addr} (h0 : g ≠ p.block) (h1 : ∀ j, j < n → rb j ≠ p.block) (u : Value) : MatIs (w.setCell p u) g n rb L M :=
  h.of (by simp [World.setCell]) (Below.heap_setCell _ _ _ _ h0) fun j hj => Below.heap_setCell _ _ _ _ (h1 j hj)
theorem MatIs.congr {M' : Nat → Nat → Bool} (h : MatIs w g n rb L M) (e : ∀ j, j < n → ∀ c, c < L j → M j c = M' j c) : MatIs w g n rb L M' :=
  ⟨h.glt, h.top, fun j hj => (h.row j hj).congr fun c hc => by rw [e j hj c hc], h.inj, h.ne⟩
/-- A store into row v. -/
theorem MatIs.put (h : MatIs w g n rb L M) {v u : Nat} (hv : v < n) (x : Bool) : MatIs (w.setCell ⟨rb v, u, none⟩ (.bool x)) g n rb L (fun j c => if j = v ∧ c = u then x else M j c) :=
  ⟨by simpa [World.setCell] using h.glt, fun j hj => (World.cell?_setCell_other _ _ _ _ (fun e => h.ne v hv (congrArg Addr.block e))).trans (h.top j hj), fun j hj => by
    by_cases e : j = v
    · subst e
      exact ((h.row j hj).set u _).congr fun c hc => by by_cases e : c = u <;> simp [e]
    · exact ((h.row j hj).setOther (fun e2 => e (h.inj j v hj hv e2)) _).congr fun c hc => by simp [e], h.inj, h.ne⟩
theorem MatIs.put_true (h : MatIs w g n rb L M) {v u : Nat} (hv : v < n) {M' : Nat → Nat → Bool} (e : ∀ j, j < n → ∀ c, c < L j → (M j c || (j == v && c == u)) = M' j c) : MatIs (w.setCell ⟨rb v, u, none⟩ (.bool true)) g n rb L M' :=
  (h.put hv true).congr fun j hj c hc => by
    rw [← e j hj c hc]
    by_cases e1 : j = v <;> by_cases e2 : c = u <;> simp [e1, e2]
theorem MatIs.cell (h : MatIs w g n rb L M) {v u : Nat} (hv : v < n) (hu : u < L v) : w.cell? ⟨rb v, u, none⟩ = some (.bool (M v u)) := (h.row v hv).cell hu
theorem MatIs.frozen (h : MatIs w g n rb L M) {v : Nat} (u : Nat) (hv : v < n) : w.frozen? ⟨rb v, u, none⟩ = false := (h.row v hv).frozen u
theorem MatIs.rlt (h : MatIs w g n rb L M) {v : Nat} (hv : v < n) : rb v < w.heap.size := (h.row v hv).lt
end
theorem infoB : (Tryz.prog.info? 4).map (fun i => (i.zero, i.size, i.bytes)) = some (some (.bool false), 1, 1) := by kernel_rfl
theorem infoBs : (Tryz.prog.info? 74).map (fun i => (i.zero, i.size, i.bytes)) = some (some (.slice none 0 0), 1, 24) := by kernel_rfl
end

section
open Go Go.RowKit
set_option linter.unusedVariables false

section
variable {P : Program} {ops : Array Oper} {Q : Exit → Act → World → Prop} {md : Region.Mode} {S T : World → Prop} {st : Nat}
/-- Operation j waits for operation i. -/
def waits (md : Region.Mode) (ops : Array Oper) (j i : Nat) : Bool :=
  match ops[j]? with
  | some oj => oj.after.any fun e => Region.binds md e && e.on == i
  | none => false
inductive Path (md : Region.Mode) (ops : Array Oper) (i : Nat) : Nat → Prop
  | refl : Path md ops i i
  | step {j k : Nat} : Path md ops i j → waits md ops k j = true → Path md ops i k
/-- Which of the first n operations wait for i, through others. -/
def pathL (md : Region.Mode) (ops : Array Oper) (i : Nat) : Nat → List Bool
  | 0 => []
  | n + 1 => pathL md ops i n ++ [(n == i) || (match ops[n]? with
      | some oj => oj.after.any fun e => Region.binds md e && (pathL md ops i n).getD e.on false
      | none => false)]
theorem pathL_len (i : Nat) : ∀ n, (pathL md ops i n).length = n
  | 0 => rfl
  | n + 1 => by show (pathL md ops i n ++ [_]).length = _; simp [pathL_len i n]
theorem pathL_path (i : Nat) : ∀ (n j : Nat), (pathL md ops i n).getD j false = true → Path md ops i j
  | 0, j, h => by simp [pathL] at h
  | n + 1, j, h => by
    have hl := pathL_len (md := md) (ops := ops) i n
    unfold pathL at h
    simp only [List.getD] at h
    by_cases hj : j < n
    · rw [List.getElem?_append_left (by omega)] at h
      exact pathL_path i n j h
    · rw [List.getElem?_append_right (by omega), hl] at h
      by_cases e : j = n
      · subst e
        rw [Nat.sub_self] at h
        simp only [List.getElem?_cons_zero, Option.getD_some, Bool.or_eq_true, beq_iff_eq] at h
        rcases h with h | h
        · subst h; exact .refl
        · split at h
          · rename_i oj ho
            obtain ⟨e, he, h2⟩ := Array.any_eq_true'.1 h
            simp only [Bool.and_eq_true] at h2
            have hp := pathL_path i j e.on h2.2
            refine .step hp ?_
            unfold waits
            rw [ho]
            exact Array.any_eq_true'.2 ⟨e, he, by simp [h2.1]⟩
          · cases h
      · have : 0 < j - n := by omega
        obtain ⟨d, hd⟩ : ∃ d, j - n = d + 1 := ⟨j - n - 1, by omega⟩
        rw [hd] at h
        simp at h
def pathB (md : Region.Mode) (ops : Array Oper) (i s : Nat) : Bool := (pathL md ops i (s + 1)).getD s false
theorem path_of {i s : Nat} (h : pathB md ops i s = true) : Path md ops i s := pathL_path i _ s h
/-- What has come up is closed under waiting. -/
def Cl (md : Region.Mode) (ops : Array Oper) (listed : Array Bool) : Prop :=
  ∀ j oj, ops[j]? = some oj → listed.getD j false = true → ∀ e ∈ oj.after, Region.binds md e = true → listed.getD e.on false = true
theorem cl_set {listed : Array Bool} {i : Nat} (h : Cl md ops listed) (hi : i ∈ Region.ready md ops listed) : Cl md ops (listed.setIfInBounds i true) := by
  obtain ⟨_, oi, hoi, hall⟩ := mem_ready.1 hi
  intro j oj hj hl e he hb
  by_cases hij : i = j
  · subst hij
    have : oj = oi := Option.some.inj (hj.symm.trans hoi)
    subst this
    exact getD_set_true (hall e he hb)
  · rw [getD_set_ne false hij] at hl
    exact getD_set_true (h j oj hj hl e he hb)
theorem cl_start (n : Nat) : Cl md ops (Array.replicate n false) := fun j oj hj hl e he hb => by
  exfalso
  rcases Nat.lt_or_ge j n with h | h
  · simp [h] at hl
  · simp [h] at hl
theorem cl_path {listed : Array Bool} {i s : Nat} (h : Cl md ops listed) (hp : Path md ops i s) (hs : listed.getD s false = true) : listed.getD i false = true := by
  induction hp with
  | refl => exact hs
  | @step j k hp hw ih =>
    unfold waits at hw
    split at hw
    · rename_i oj ho
      obtain ⟨e, he, h2⟩ := Array.any_eq_true'.1 hw
      simp only [Bool.and_eq_true, beq_iff_eq] at h2
      have := h k oj ho hs e he h2.1
      rw [h2.2] at this
      exact ih this
    · cases hw
def Gd (st : Nat) (S : World → Prop) (listed : Array Bool) (w : World) : Prop := listed.getD st false = false → S w
def wpAnyG (P : Program) (md : Region.Mode) (ops : Array Oper) (Q : Exit → Act → World → Prop) (st : Nat) (S : World → Prop) : Nat → Array Bool → Act → World → Prop
  | 0, listed, a, w => Region.ready md ops listed = [] ∧ Q .normal a w
  | fuel + 1, listed, a, w =>
    (Region.ready md ops listed = [] → Q .normal a w) ∧
    ∀ i ∈ Region.ready md ops listed, wpOp P ops Q i (fun a' w' => Gd st S (listed.setIfInBounds i true) w' ∧ wpAnyG P md ops Q st S fuel (listed.setIfInBounds i true) a' w') a w
theorem wpAny_of_G : ∀ (fuel : Nat) (listed : Array Bool) (a : Act) (w : World), wpAnyG P md ops Q st S fuel listed a w → wpAny P md ops Q fuel listed a w
  | 0, _, _, _, h => h
  | fuel + 1, _, _, _, h => ⟨h.1, fun i hi => wpOp_mono (fun a' w' h' => wpAny_of_G fuel _ a' w' h'.2) (h.2 i hi)⟩
theorem getD_un {listed : Array Bool} {i j : Nat} (h : (listed.setIfInBounds i true).getD j false = false) : listed.getD j false = false := by
  cases e : listed.getD j false with
  | false => rfl
  | true => rw [getD_set_true e] at h; cases h
theorem getD_TF {listed : Array Bool} {i : Nat} (h : listed.getD i true = false) : listed.getD i false = false := by
  rcases Nat.lt_or_ge i listed.size with h' | h'
  · simp [h'] at h ⊢; exact h
  · simp [Array.getElem?_eq_none h'] at h

theorem wpAnyG_first {i : Nat} {oi : Oper} {v : Value} (hi : ops[i]? = some oi) (hsel : ∀ (j : Nat) (o : Oper) cs b, ops[j]? = some o → o.op ≠ .select cs b)
    (hQ : ∀ c a w, Q (.panic c) (a.put oi.dst v) w → Q (.panic c) a w) (hne : i ≠ st)
    (hT : ∀ (listed : Array Bool) (w : World), Cl md ops listed → listed.getD i true = false → Gd st S listed w → T w) :
    ∀ (fuel : Nat) (listed : Array Bool) (a : Act) (w : World), Cl md ops listed →
      (∀ j oj, ops[j]? = some oj → j ≠ i → listed.getD j true = false → (∀ e ∈ oj.after, Region.binds md e = true → e.on ≠ i) → oi.apart ops oj = true) →
      i ∈ Region.ready md ops listed → YieldsIf P ops T oi v a → Gd st S listed w →
      wpAnyG P md ops Q st S fuel (listed.setIfInBounds i true) (a.put oi.dst v) w → wpAnyG P md ops Q st S (fuel + 1) listed a w := by
  intro fuel
  induction fuel with
  | zero =>
    intro listed a w hcl _ hr hy hS H
    refine ⟨fun h => (by rw [h] at hr; cases hr), fun j hj => ?_⟩
    by_cases hji : j = i
    · subst hji
      exact hy.wpOp hi (hT _ _ hcl (mem_ready.1 hr).1 hS) ⟨fun h => hS (getD_un h), H⟩
    · have := ready_mono hj hji
      rw [H.1] at this
      cases this
  | succ fuel ih =>
    intro listed a w hcl hfree hr hy hS H
    refine ⟨fun h => (by rw [h] at hr; cases hr), fun j hj => ?_⟩
    by_cases hji : j = i
    · subst hji
      exact hy.wpOp hi (hT _ _ hcl (mem_ready.1 hr).1 hS) ⟨fun h => hS (getD_un h), H⟩
    · have h1 := H.2 j (ready_mono hj hji)
      obtain ⟨hjun, oj, hoj, hall⟩ := mem_ready.1 hj
      have hnot : ∀ e ∈ oj.after, Region.binds md e = true → e.on ≠ i := fun e he hb heq => by
        have h1 := hall e he hb
        have h0 := (mem_ready.1 hr).1
        rw [heq] at h1
        rcases Nat.lt_or_ge i listed.size with h' | h'
        · simp [h'] at h0 h1; rw [h0] at h1; cases h1
        · simp [Array.getElem?_eq_none h'] at h1
      have h2 := wpOp_putIf hoj (hfree j oj hoj hji hjun hnot) (fun cs b => hsel i oi cs b hi) (fun cs b => hsel j oj cs b hoj) hQ hy h1
      have hfree' : ∀ k ok, ops[k]? = some ok → k ≠ i → (listed.setIfInBounds j true).getD k true = false →
          (∀ e ∈ ok.after, Region.binds md e = true → e.on ≠ i) → oi.apart ops ok = true := fun k ok hk hki hun hno => by
        refine hfree k ok hk hki ?_ hno
        by_cases hjk : j = k
        · subst hjk; exact hjun
        · rw [getD_set_ne true hjk] at hun; exact hun
      refine wpOp_mono (fun a' w' h3 => ?_) h2
      obtain ⟨g1, g2, g3⟩ := h3
      have hG : Gd st S (listed.setIfInBounds j true) w' := fun h => g2 (by
        rw [← Array.setIfInBounds_comm _ _ hji, getD_set_ne false hne]
        exact h)
      refine ⟨hG, ih (listed.setIfInBounds j true) a' w' (cl_set hcl hj) hfree' (ready_mono hr (Ne.symm hji)) g1 hG ?_⟩
      rw [Array.setIfInBounds_comm _ _ hji]
      exact g3

theorem wpAnyG_take {i : Nat} {oi : Oper} {v : Value} {fuel : Nat} {listed : Array Bool} {a : Act} {w : World} (hi : ops[i]? = some oi) (hcl : Cl md ops listed ∧ Gd st S listed w)
    (hs : Region.noSelect ops = true) (hf : Region.free md ops listed i = true) (hr : (Region.ready md ops listed).contains i = true) (hne : (i == st) = false) (hp : pathB md ops i st = true)
    (hQ : ∀ c a w, Q (.panic c) (a.put oi.dst v) w → Q (.panic c) a w) (hy : YieldsIf P ops S oi v a)
    (h : Cl md ops (listed.setIfInBounds i true) ∧ Gd st S (listed.setIfInBounds i true) w → wpAnyG P md ops Q st S fuel (listed.setIfInBounds i true) (a.put oi.dst v) w) : wpAnyG P md ops Q st S (fuel + 1) listed a w :=
  have hr' : i ∈ Region.ready md ops listed := by simpa using hr
  wpAnyG_first hi (Region.noSelect_spec hs) hQ (by simpa using hne) (T := S) (fun l w' hc hl hg => hg (by
    cases e : l.getD st false with
    | false => rfl
    | true => have h3 := cl_path hc (path_of hp) e; rw [getD_TF hl] at h3; cases h3)) fuel listed a w hcl.1 (Region.free_spec hi hf) hr' hy hcl.2 (h ⟨cl_set hcl.1 hr', fun h => hcl.2 (getD_un h)⟩)
theorem wpAnyG_any {i : Nat} {oi : Oper} {v : Value} {fuel : Nat} {listed : Array Bool} {a : Act} {w : World} (hi : ops[i]? = some oi) (hcl : Cl md ops listed ∧ Gd st S listed w)
    (hs : Region.noSelect ops = true) (hf : Region.free md ops listed i = true) (hr : (Region.ready md ops listed).contains i = true) (hne : (i == st) = false)
    (hQ : ∀ c a w, Q (.panic c) (a.put oi.dst v) w → Q (.panic c) a w) (hy : YieldsIf P ops (fun _ => True) oi v a)
    (h : Cl md ops (listed.setIfInBounds i true) ∧ Gd st S (listed.setIfInBounds i true) w → wpAnyG P md ops Q st S fuel (listed.setIfInBounds i true) (a.put oi.dst v) w) : wpAnyG P md ops Q st S (fuel + 1) listed a w :=
  have hr' : i ∈ Region.ready md ops listed := by simpa using hr
  wpAnyG_first hi (Region.noSelect_spec hs) hQ (by simpa using hne) (T := fun _ => True) (fun _ _ _ _ _ => trivial) fuel listed a w hcl.1 (Region.free_spec hi hf) hr' hy hcl.2 (h ⟨cl_set hcl.1 hr', fun h => hcl.2 (getD_un h)⟩)
/-- Each of the operations rs comes up next. -/
def AllG (P : Program) (md : Region.Mode) (ops : Array Oper) (Q : Exit → Act → World → Prop) (st : Nat) (S : World → Prop) (fuel : Nat) (listed : Array Bool) (a : Act) (w : World) (rs : List Nat) : Prop :=
  ∀ i ∈ rs, i ∈ Region.ready md ops listed → wpOp P ops Q i (fun a' w' => Gd st S (listed.setIfInBounds i true) w' ∧ wpAnyG P md ops Q st S fuel (listed.setIfInBounds i true) a' w') a w
theorem AllG.nil {fuel : Nat} {listed : Array Bool} {a : Act} {w : World} : AllG P md ops Q st S fuel listed a w [] := fun _ h => by cases h
theorem AllG.cons {fuel : Nat} {listed : Array Bool} {a : Act} {w : World} {i : Nat} {o : Oper} {rs : List Nat} (ho : ops[i]? = some o) (hcl : Cl md ops listed ∧ Gd st S listed w)
    (h : ∀ K' : Act → World → Prop, Shut (∀ a w, ((i == st || listed.getD st false) = true ∨ S w) → (Cl md ops (listed.setIfInBounds i true) ∧ Gd st S (listed.setIfInBounds i true) w → wpAnyG P md ops Q st S fuel (listed.setIfInBounds i true) a w) → K' a w) → if Region.wanted o (yielded ops a.tmps) = true then Oper.wp P o a w K' Q else K' (a.put o.dst undef) w)
    (hs : AllG P md ops Q st S fuel listed a w rs) : AllG P md ops Q st S fuel listed a w (i :: rs) := fun j hj hjr => by
  rcases List.mem_cons.1 hj with rfl | hj
  · refine wpOp_step ho (fun K' hK => h K' (fun a w hS hW => ?_))
    have hG : Gd st S (listed.setIfInBounds j true) w := fun h0 => by
      rcases hS with hS | hS
      · exfalso
        simp only [Bool.or_eq_true, beq_iff_eq] at hS
        rcases hS with hS | hS
        · subst hS
          have hlt : j < listed.size := by
            rcases Nat.lt_or_ge j listed.size with h' | h'
            · exact h'
            · have := (mem_ready.1 hjr).1; simp [Array.getElem?_eq_none h'] at this
          simp [hlt] at h0
        · rw [getD_set_true hS] at h0; cases h0
      · exact hS
    exact hK a w ⟨hG, hW ⟨cl_set hcl.1 hjr, hG⟩⟩
  · exact hs j hj hjr
theorem wpAnyG_ready {rs : List Nat} {fuel : Nat} {listed : Array Bool} {a : Act} {w : World} (hr : Region.ready md ops listed = rs) (hne : rs ≠ [])
    (h : AllG P md ops Q st S fuel listed a w rs) : wpAnyG P md ops Q st S (fuel + 1) listed a w :=
  ⟨fun h0 => absurd (hr ▸ h0) hne, fun i hi => h i (hr ▸ hi) hi⟩
theorem wpAnyG_done {listed : Array Bool} {a : Act} {w : World} (hr : Region.ready md ops listed = []) (h : Q .normal a w) :
    ∀ fuel, wpAnyG P md ops Q st S fuel listed a w
  | 0 => ⟨hr, h⟩
  | _ + 1 => ⟨fun _ => h, by rw [hr]; simp⟩
/-- The beginning. -/
theorem wp_region_G {id : Nat} {a : Act} {w : World} (st : Nat) (S : World → Prop) (hm : P.follows .mixedOrders = true) (hS : S w.drew)
    (h : Cl .any ops (Array.replicate ops.size false) ∧ Gd st S (Array.replicate ops.size false) w.drew → wpAnyG P .any ops Q st S ops.size (Array.replicate ops.size false) a w.drew) : (Code.region id ops true).wp P Q a w :=
  wp_region_any hm (wpAny_of_G _ _ _ _ (h ⟨cl_start _, fun _ => hS⟩))
end
end

section
open Go Go.RowKit
set_option linter.unusedVariables false

section
variable {P : Program} {ops : Array Oper} {Q : Exit → Act → World → Prop} {md : Region.Mode} {S T : World → Prop} {st : Nat}
/-- The walk's steps, with the grounds found by the walk itself. An operation that needs no memory. -/
theorem wpS1 (i : Nat) {oi : Oper} {v : Value} {fuel : Nat} {listed : Array Bool} {a a' : Act} {w : World} (hcl : Cl md ops listed ∧ Gd st S listed w)
    (h : Cl md ops (listed.setIfInBounds i true) ∧ Gd st S (listed.setIfInBounds i true) w → wpAnyG P md ops Q st S fuel (listed.setIfInBounds i true) a' w)
    (hi : ops[i]? = some oi := by exact rfl) (hs : Region.noSelect ops = true := by kernel_rfl) (hf : Region.free md ops listed i = true := by kernel_rfl) (hr : (Region.ready md ops listed).contains i = true := by kernel_rfl) (hne : (i == st) = false := by exact rfl) (hw : Region.wanted oi (yielded ops a.tmps) = true := by exact rfl)
    (hy : ∀ w, (fun _ : World => True) w → (execOp a.eval oi).run P w = .ok (.value v) w := by (intro wS hSw; (try dsimp only at hSw); first | (go_simp; done) | (go_simp; with_reducible rfl) | (simp [go_sem, ↓IntWalk.iteOmega, *]; done) | (simp [go_sem, ↓IntWalk.iteOmega, *]; with_reducible rfl)))
    (ha : a.put oi.dst v = a' := by (try simp only [Act.put, List.setIfInBounds_toArray, List.set_cons_zero, List.set_cons_succ, List.getElem_toArray, List.getElem_cons_succ, List.getElem_cons_zero]); exact rfl) (hQ : ∀ c a w, Q (.panic c) (a.put oi.dst v) w → Q (.panic c) a w := by exact fun _ _ _ h => h) : wpAnyG P md ops Q st S (fuel + 1) listed a w :=
  wpAnyG_any hi hcl hs hf hr hne hQ (Or.inl ⟨hw, hy⟩) (ha ▸ h)
/-- A load. -/
theorem wpS2 (i : Nat) {oi : Oper} {v : Value} {fuel : Nat} {listed : Array Bool} {a a' : Act} {w : World} (hcl : Cl md ops listed ∧ Gd st S listed w)
    (h : Cl md ops (listed.setIfInBounds i true) ∧ Gd st S (listed.setIfInBounds i true) w → wpAnyG P md ops Q st S fuel (listed.setIfInBounds i true) a' w)
    (hi : ops[i]? = some oi := by exact rfl) (hs : Region.noSelect ops = true := by kernel_rfl) (hf : Region.free md ops listed i = true := by kernel_rfl) (hr : (Region.ready md ops listed).contains i = true := by kernel_rfl) (hne : (i == st) = false := by exact rfl) (hp : pathB md ops i st = true := by kernel_rfl) (hw : Region.wanted oi (yielded ops a.tmps) = true := by exact rfl)
    (hy : ∀ w, S w → (execOp a.eval oi).run P w = .ok (.value v) w := by (intro wS hSw; (try dsimp only at hSw); first | (go_simp; done) | (go_simp; with_reducible rfl) | (simp [go_sem, ↓IntWalk.iteOmega, *]; done) | (simp [go_sem, ↓IntWalk.iteOmega, *]; with_reducible rfl)))
    (ha : a.put oi.dst v = a' := by (try simp only [Act.put, List.setIfInBounds_toArray, List.set_cons_zero, List.set_cons_succ, List.getElem_toArray, List.getElem_cons_succ, List.getElem_cons_zero]); exact rfl) (hQ : ∀ c a w, Q (.panic c) (a.put oi.dst v) w → Q (.panic c) a w := by exact fun _ _ _ h => h) : wpAnyG P md ops Q st S (fuel + 1) listed a w :=
  wpAnyG_take hi hcl hs hf hr hne hp hQ (Or.inl ⟨hw, hy⟩) (ha ▸ h)
/-- An operation whose guard does not hold. -/
theorem wpS0 (i : Nat) {oi : Oper} {fuel : Nat} {listed : Array Bool} {a a' : Act} {w : World} (hcl : Cl md ops listed ∧ Gd st S listed w)
    (h : Cl md ops (listed.setIfInBounds i true) ∧ Gd st S (listed.setIfInBounds i true) w → wpAnyG P md ops Q st S fuel (listed.setIfInBounds i true) a' w)
    (hi : ops[i]? = some oi := by exact rfl) (hs : Region.noSelect ops = true := by kernel_rfl) (hf : Region.free md ops listed i = true := by kernel_rfl) (hr : (Region.ready md ops listed).contains i = true := by kernel_rfl) (hne : (i == st) = false := by exact rfl) (hw : Region.wanted oi (yielded ops a.tmps) = false := by exact rfl)
    (ha : a.put oi.dst undef = a' := by (try simp only [Act.put, List.setIfInBounds_toArray, List.set_cons_zero, List.set_cons_succ, List.getElem_toArray, List.getElem_cons_succ, List.getElem_cons_zero]); exact rfl) (hQ : ∀ c a w, Q (.panic c) (a.put oi.dst undef) w → Q (.panic c) a w := by exact fun _ _ _ h => h) : wpAnyG P md ops Q st S (fuel + 1) listed a w :=
  wpAnyG_any hi hcl hs hf hr hne hQ (Or.inr ⟨hw, rfl⟩) (ha ▸ h)
/-- An operation whose value is told. -/
theorem wpS3 (i : Nat) (v : Value) {oi : Oper} {fuel : Nat} {listed : Array Bool} {a a' : Act} {w : World} (hcl : Cl md ops listed ∧ Gd st S listed w)
    (h : Cl md ops (listed.setIfInBounds i true) ∧ Gd st S (listed.setIfInBounds i true) w → wpAnyG P md ops Q st S fuel (listed.setIfInBounds i true) a' w)
    (hi : ops[i]? = some oi := by exact rfl) (hs : Region.noSelect ops = true := by kernel_rfl) (hf : Region.free md ops listed i = true := by kernel_rfl) (hr : (Region.ready md ops listed).contains i = true := by kernel_rfl) (hne : (i == st) = false := by exact rfl) (hw : Region.wanted oi (yielded ops a.tmps) = true := by exact rfl)
    (hy : ∀ w, (fun _ : World => True) w → (execOp a.eval oi).run P w = .ok (.value v) w := by (intro wS hSw; (try dsimp only at hSw); (try go_simp); (try simp [go_sem, ↓IntWalk.iteOmega, *])))
    (ha : a.put oi.dst v = a' := by (try simp only [Act.put, List.setIfInBounds_toArray, List.set_cons_zero, List.set_cons_succ, List.getElem_toArray, List.getElem_cons_succ, List.getElem_cons_zero]); exact rfl) (hQ : ∀ c a w, Q (.panic c) (a.put oi.dst v) w → Q (.panic c) a w := by exact fun _ _ _ h => h) : wpAnyG P md ops Q st S (fuel + 1) listed a w :=
  wpAnyG_any hi hcl hs hf hr hne hQ (Or.inl ⟨hw, hy⟩) (ha ▸ h)
/-- The slots in normal form. -/
theorem wpN {fuel : Nat} {listed : Array Bool} {a a' : Act} {w : World} (h : wpAnyG P md ops Q st S fuel listed a' w) (ha : a = a' := by (try simp only [Act.put, List.setIfInBounds_toArray, List.set_cons_zero, List.set_cons_succ, List.getElem_toArray, List.getElem_cons_succ, List.getElem_cons_zero]); exact rfl) : wpAnyG P md ops Q st S fuel listed a w := ha ▸ h
end
end

section
open Go.RowKit

/-- A slice whose cells hold the values news (size cells an element). -/
structure SrcAt (w : World) (A : Option Addr) (m c size : Nat) (news : List Value) : Prop where
  none : A = none → m = 0 ∧ c = 0
  len : news.length = m * size
  cells : ∀ ad, A = some ad → ∀ j u, news[j]? = some u → w.cell? (ad.add j) = some u
  one : ∀ u ∈ news, u.oneCell' = true

section
variable {P : Program} {w : World}
theorem grown_refl (row : Option Nat) : w.grownBy w row := ⟨rfl, rfl, rfl, Nat.le_refl _, fun _ _ _ => rfl⟩

theorem wp_append_src {o : Oper} {a : Act} {K : Act → World → Prop} {Q : Exit → Act → World → Prop} (s x : Operand) (t : TypeId)
    (ho : o.op = .call { callee := .builtin .append, args := #[s, x], argTypes := #[t, t] })
    (base : Nat) (e : TypeId) (i : TypeInfo) (z : Value) (size bytes : Nat) (ht : P.underlying t = some (.slice e)) (hi : P.info? e = some i) (hz : i.zero = some z)
    (hsize : i.size = size) (hby : i.bytes = bytes) (hzs : z.cells.size = size) (hsz : 0 < size)
    (v : Value) (n : Nat) (xs : List Value) (hs : a.eval s = v) (hown : w.ownsRow base e size v n xs)
    (A : Option Addr) (m c : Nat) (news : List Value) (hx : a.eval x = .slice A m c) (hsrc : SrcAt w A m c size news)
    (h63 : n + m ≤ maxLen) (hbytes : (n + m) * bytes ≤ 140737488355328) (hbase : base ≤ w.heap.size)
    (h : ∀ v' w', w'.ownsRow base e size v' (n + m) (xs ++ news) → w.grownBy w' v.ownBlock → (v'.ownBlock = v.ownBlock ∨ v'.ownBlock = some w.heap.size) → K (a.put o.dst v') w') : o.wp P a w K Q := by
  cases A with
  | none =>
    obtain ⟨rfl, rfl⟩ := hsrc.none rfl
    have hn : news = [] := List.length_eq_zero_iff.1 (by rw [hsrc.len]; simp)
    subst hn
    have hr := run_append_owned_none (P := P) (w := w) base t o.type e i size ht hi v n xs hown
    unfold Oper.wp execOp
    simp only [ho, resolve, invoke, builtin, Sem.run_bind, Sem.run_pure, Result.andThen_ok, List.map_toArray, List.map_cons, List.map_nil, hs, hx, hr]
    exact h v w (by simpa using hown) (grown_refl _) (.inl rfl)
  | some ad =>
    obtain ⟨v', w', hr, h2, h3, _, h5⟩ := run_append_own_at (P := P) w base t o.type e i z size bytes ht hi hz hsize hby hzs hsz v n xs hown ad m c news hsrc.len (hsrc.cells ad rfl) hsrc.one h63 hbytes hbase
    unfold Oper.wp execOp
    simp only [ho, resolve, invoke, builtin, Sem.run_bind, Sem.run_pure, Result.andThen_ok, List.map_toArray, List.map_cons, List.map_nil, hs, hx, hr]
    exact h v' w' h2 h3 h5

theorem wpList_append_src {ops : Array Oper} {rest : List Oper} {o : Oper} {a : Act} {Q : Exit → Act → World → Prop} (hgd : o.guard = .none) (s x : Operand) (t : TypeId)
    (ho : o.op = .call { callee := .builtin .append, args := #[s, x], argTypes := #[t, t] })
    (base : Nat) (e : TypeId) (i : TypeInfo) (z : Value) (size bytes : Nat) (ht : P.underlying t = some (.slice e)) (hi : P.info? e = some i) (hz : i.zero = some z)
    (hsize : i.size = size) (hby : i.bytes = bytes) (hzs : z.cells.size = size) (hsz : 0 < size)
    (v : Value) (n : Nat) (xs : List Value) (hs : a.eval s = v) (hown : w.ownsRow base e size v n xs)
    (A : Option Addr) (m c : Nat) (news : List Value) (hx : a.eval x = .slice A m c) (hsrc : SrcAt w A m c size news)
    (h63 : n + m ≤ maxLen) (hbytes : (n + m) * bytes ≤ 140737488355328) (hbase : base ≤ w.heap.size)
    (h : ∀ v' w', w'.ownsRow base e size v' (n + m) (xs ++ news) → w.grownBy w' v.ownBlock → (v'.ownBlock = v.ownBlock ∨ v'.ownBlock = some w.heap.size) → wpList P ops Q rest (a.put o.dst v') w') :
    wpList P ops Q (o :: rest) a w :=
  wpList_plain hgd fun _ hK => wp_append_src s x t ho base e i z size bytes ht hi hz hsize hby hzs hsz v n xs hs hown A m c news hx hsrc h63 hbytes hbase fun v' w' h2 h3 h4 => hK _ _ (h v' w' h2 h3 h4)

theorem step_append_src {ops : Array Oper} {o : Oper} {a : Act} {K : Act → World → Prop} {Q : Exit → Act → World → Prop} {E : Prop} (hgd : o.guard = .none) (s x : Operand) (t : TypeId)
    (ho : o.op = .call { callee := .builtin .append, args := #[s, x], argTypes := #[t, t] })
    (base : Nat) (e : TypeId) (i : TypeInfo) (z : Value) (size bytes : Nat) (ht : P.underlying t = some (.slice e)) (hi : P.info? e = some i) (hz : i.zero = some z)
    (hsize : i.size = size) (hby : i.bytes = bytes) (hzs : z.cells.size = size) (hsz : 0 < size)
    (v : Value) (n : Nat) (xs : List Value) (hs : a.eval s = v) (hown : w.ownsRow base e size v n xs)
    (A : Option Addr) (m c : Nat) (news : List Value) (hx : a.eval x = .slice A m c) (hsrc : SrcAt w A m c size news)
    (h63 : n + m ≤ maxLen) (hbytes : (n + m) * bytes ≤ 140737488355328) (hbase : base ≤ w.heap.size)
    (h : ∀ v' w', w'.ownsRow base e size v' (n + m) (xs ++ news) → w.grownBy w' v.ownBlock → (v'.ownBlock = v.ownBlock ∨ v'.ownBlock = some w.heap.size) → K (a.put o.dst v') w') :
    if Region.wanted o (yielded ops a.tmps) = true then Oper.wp P o a w K Q else E := by
  have hw : Region.wanted o (yielded ops a.tmps) = true := by simp [Region.wanted, hgd]
  rw [if_pos hw]
  exact wp_append_src s x t ho base e i z size bytes ht hi hz hsize hby hzs hsz v n xs hs hown A m c news hx hsrc h63 hbytes hbase h
end

/-- Numbers as a source. -/
theorem ints_srcAt {w : World} {B : Nat} {A : Option Addr} {l : List Int} {c : Nat} (h : IntsAt w B A l) (hA : A = none → c = 0) : SrcAt w A l.length c 1 (l.map (.int .i64)) where
  none := fun e => by
    refine ⟨?_, hA e⟩
    rcases Nat.eq_zero_or_pos l.length with h0 | h0
    · exact h0
    · obtain ⟨b, off, e2, _⟩ := h.2 h0; rw [e] at e2; cases e2
  len := by simp
  cells := fun ad e j u hj => by
    have hlt : j < l.length := by have := (List.getElem?_eq_some_iff.1 hj).1; simpa using this
    obtain ⟨b, off, e2, _, hc⟩ := h.2 (by omega)
    rw [e] at e2
    cases e2
    have h1 := hc j hlt
    have h2 : u = .int .i64 (nth l j) := by
      rw [List.getElem?_map, List.getElem?_eq_getElem hlt] at hj
      cases hj
      unfold nth
      simp [List.getD, List.getElem?_eq_getElem hlt]
    subst h2
    simp [Addr.add]
    split
    · rename_i h0; subst h0; simpa using h1
    · simpa using h1
  one := fun u hu => by simp at hu; obtain ⟨x, _, rfl⟩ := hu; rfl
end

section
open Go Go.RowKit
set_option linter.unusedVariables false

section
variable {w w1 wr : World} {B : Nat} {e : TypeId} {s : Nat} {v : Value} {n : Nat} {xs : List Value}
theorem own_below (h : wr.ownsRow B e s v n xs) (hb : Below wr.heap.size wr w1) : w1.ownsRow B e s v n xs :=
  h.kept (row := none) ⟨hb.os, hb.tape, hb.output, hb.size, fun k hk _ => hb.block k hk⟩ (by cases v.ownBlock <;> simp)
theorem own_built (w : World) (cur : Array Value) (n : Nat) (hb : B ≤ w.heap.size) (hm : n ≤ maxLen) (hs : cur.size = n * s) : (w.alloc (.cells cur e)).ownsRow B e s (.slice (some ⟨w.heap.size, 0, none⟩) n n) n cur.toList :=
  ⟨by simpa using hs, .inr ⟨w.heap.size, n, cur, rfl, hb, heap_alloc_new w _, Nat.le_refl _, hm, hs, by rw [← hs, show cur.size = cur.toList.length by simp, List.take_length]⟩⟩
theorem grown_below2 {w : World} (hb : Below B w wr) (hB : B ≤ w.heap.size) (ho : wr.ownsRow B e s v n xs) (hg : wr.grownBy w1 v.ownBlock) : Below B w w1 :=
  hb.grown hg (Nat.le_trans hB hb.size) fun k hk => (ho.lt k hk).1
theorem own_ne {w : World} (h : w.ownsRow B e s v n xs) {g : Nat} (hg : w.heap.size ≤ g) : v.ownBlock = none ∨ v.ownBlock ≠ some g := by
  cases hv : v.ownBlock with
  | none => exact .inl rfl
  | some k => refine .inr fun hh => ?_; have := (h.lt k hv).2; cases hh; omega
theorem two_one {x y : Value} (h0 : x.oneCell' = true) (h1 : y.oneCell' = true) : ∀ u ∈ [x, y], u.oneCell' = true := by intro u hu; simp at hu; rcases hu with rfl | rfl <;> assumption
theorem one_one {x : Value} (h0 : x.oneCell' = true) : ∀ u ∈ [x], u.oneCell' = true := by intro u hu; simp at hu; subst hu; assumption
theorem three_one {x y z : Value} (h0 : x.oneCell' = true) (h1 : y.oneCell' = true) (h2 : z.oneCell' = true) : ∀ u ∈ [x, y, z], u.oneCell' = true := by intro u hu; simp at hu; rcases hu with rfl | rfl | rfl <;> assumption
/-- Blocks of different element types are different. -/
theorem row_own_ne {w : World} {b : Nat} {t : TypeId} {m : Nat} {f : Nat → Value} (hr : w.rowIs b t m f) (h : w.ownsRow B e s v n xs) (hne : t ≠ e) : some b ≠ v.ownBlock := by
  obtain ⟨c, hb, _⟩ := hr
  rcases h.2 with ⟨rfl, _⟩ | ⟨g, cap, cur, rfl, _, hg, _⟩
  · simp [Value.ownBlock]
  · intro he
    have : g = b := by simpa [Value.ownBlock] using he.symm
    subst this
    rw [hb] at hg
    injection hg with hg
    injection hg with _ ht
    exact hne ht
end

section
variable {P : Program} {w : World}
/-- The cells of a block that is known whole. -/
theorem cells_of_block {H : Nat} {news : List Value} {T : TypeId} (h : w.heap[H]? = some (.cells news.toArray T (0, 0))) : ∀ j u, news[j]? = some u → w.cell? ((⟨H, 0, none⟩ : Addr).add j) = some u := by
  intro j u hu
  have h1 := cell_of_row w H j news.toArray T (0, 0) h
  rw [show news.toArray[j]? = news[j]? by simp, hu] at h1
  simp only [Addr.add]
  split
  · rename_i h0; subst h0; exact h1
  · rw [Nat.zero_add]; exact h1
/-- append of one element, laid into a block of its own, to a row of the call's own. -/
theorem wpList_push {ops : Array Oper} {rest : List Oper} {o : Oper} {a : Act} {Q : Exit → Act → World → Prop} (hgd : o.guard = .none) (s x : Operand) (t : TypeId)
    (ho : o.op = .call { callee := .builtin .append, args := #[s, x], argTypes := #[t, t] })
    (base : Nat) (e : TypeId) (i : TypeInfo) (z : Value) (size bytes : Nat) (ht : P.underlying t = some (.slice e)) (hi : P.info? e = some i) (hz : i.zero = some z)
    (hsize : i.size = size) (hby : i.bytes = bytes) (hzs : z.cells.size = size) (hsz : 0 < size) (hbs : bytes ≤ 1000)
    (v : Value) (n : Nat) (xs : List Value) (hs : a.eval s = v) (hown : w.ownsRow base e size v n xs)
    (H : Nat) (T : TypeId) (news : List Value) (hx : a.eval x = .slice (some ⟨H, 0, none⟩) 1 1) (hl : news.length = size) (hH : w.heap[H]? = some (.cells news.toArray T (0, 0))) (h1 : ∀ u ∈ news, u.oneCell' = true)
    (hn : n ≤ 10000000) (hbase : base ≤ w.heap.size) {W : World} {B : Nat} (hB : Below B W w) (hBb : B ≤ base)
    (h : ∀ v' w', w'.ownsRow base e size v' (n + 1) (xs ++ news) → w.grownBy w' v.ownBlock → (v'.ownBlock = v.ownBlock ∨ v'.ownBlock = some w.heap.size) → Below B W w' → wpList P ops Q rest (a.put o.dst v') w') :
    wpList P ops Q (o :: rest) a w := by
  have hn1 : (n + 1) * bytes ≤ 140737488355328 := Nat.le_trans (Nat.mul_le_mul (show n + 1 ≤ 10000001 by omega) hbs) (by decide)
  refine wpList_append_own_at w hgd s x t ho base e i z size bytes ht hi hz hsize hby hzs hsz v n xs hs hown ⟨H, 0, none⟩ 1 1 news hx (by rw [hl, Nat.one_mul]) (cells_of_block hH) h1 (by unfold maxLen; omega) hn1 hbase ?_
  intro v' w' h2 h3 _ h5
  exact h v' w' h2 h3 h5 (hB.grown h3 (by omega) fun k hk => Nat.le_trans hBb ((hown.lt k hk).1))
end

/-- A slice of fractions as a result. -/
def GotFs (w : World) (v : Value) (l : List (Int × Int)) : Prop := ∃ A c, v = .slice A l.length c ∧ (A = none → c = 0) ∧ FactsAt w w.heap.size A l
theorem gotFs_nil (w : World) : GotFs w (.slice none 0 0) [] := ⟨none, 0, rfl, fun _ => rfl, by simp, fun h => absurd h (by simp)⟩
def RetFs (l : List (Int × Int)) (cv : Value) (w : World) (e : Ending) (w' : World) : Prop := (∃ v, e = .returned (.tuple #[v, cv]) ∧ GotFs w' v l) ∧ Below w.heap.size w w'
end

section
open Go Go.RowKit
set_option linter.unusedVariables false

theorem own_shape {W : World} {B s n : Nat} {e : TypeId} {v : Value} {xs : List Value} (h : W.ownsRow B e s v n xs) : ∃ A c, v = .slice A n c := by
  rcases h.2 with ⟨rfl, h0⟩ | ⟨b, cap, cur, rfl, hb, hg, hh⟩
  · exact ⟨none, 0, by rw [h0]⟩
  · exact ⟨some ⟨b, 0, none⟩, cap, rfl⟩
theorem own_set {W : World} {B s n : Nat} {e : TypeId} {v u : Value} {xs : List Value} {p : Addr} (h : W.ownsRow B e s v n xs) (hp : p.block < B) : (W.setCell p u).ownsRow B e s v n xs := by
  rcases h.2 with ⟨rfl, h0⟩ | ⟨g, cap, cur, hv, hb, hg, hh⟩
  · exact ⟨h.1, .inl ⟨rfl, h0⟩⟩
  · exact ⟨h.1, .inr ⟨g, cap, cur, hv, hb, (Below.heap_setCell _ _ _ _ (by omega)).trans hg, hh⟩⟩
/-- Rules with 'if' for the walk. -/
theorem cif {B : Nat} {W x : World} (hb : Below B W x) : ∀ b o, x.cell? ⟨b, o, none⟩ = if b < B then W.cell? ⟨b, o, none⟩ else hidC x b o := fun b o => by
  split
  · exact hb.cell (p := ⟨b, o, none⟩) (by assumption)
  · rfl
theorem fif {B : Nat} {W x : World} (hb : Below B W x) : ∀ b o, x.frozen? ⟨b, o, none⟩ = if b < B then W.frozen? ⟨b, o, none⟩ else hidF x b o := fun b o => by
  split
  · exact hb.frozen (p := ⟨b, o, none⟩) (by assumption)
  · rfl
end

section
open Go Go.RowKit
set_option linter.unusedVariables false

def Fac (w : World) (bad : Nat → Prop) (A : Option Addr) (l : List (Int × Int)) : Prop :=
  l.length ≤ 140737488355328 ∧ (0 < l.length → ∃ b off, A = some ⟨b, off, none⟩ ∧ b < w.heap.size ∧ ¬ bad b ∧ ∀ k, k < l.length → w.cell? ⟨b, off + k * 2, none⟩ = some (.int .i64 (fv l k)) ∧ w.cell? ⟨b, off + k * 2 + 1, none⟩ = some (.int .i64 (fx l k)))
/-- Effects, their conditions too. -/
def Efs (w : World) (bad : Nat → Prop) (A : Option Addr) (l : List Eff) : Prop :=
  l.length ≤ 140737488355328 ∧ (0 < l.length → ∃ b off, A = some ⟨b, off, none⟩ ∧ b < w.heap.size ∧ ¬ bad b ∧ ∀ k, k < l.length → ∃ S c,
    w.cell? ⟨b, off + k * 3, none⟩ = some (.slice S (eff l k).whn.length c) ∧ Fac w bad S (eff l k).whn ∧
    w.cell? ⟨b, off + k * 3 + 1, none⟩ = some (.int .i64 (eff l k).var) ∧ w.cell? ⟨b, off + k * 3 + 2, none⟩ = some (.int .i64 (eff l k).val))
/-- The cells of a row of effects, of operators. -/
def EfIs (w : World) (bad : Nat → Prop) (xs : List Value) (l : List Eff) : Prop :=
  xs.length = l.length * 3 ∧ ∀ k, k < l.length → ∃ S c, xs[k * 3]? = some (.slice S (eff l k).whn.length c) ∧ Fac w bad S (eff l k).whn ∧ xs[k * 3 + 1]? = some (.int .i64 (eff l k).var) ∧ xs[k * 3 + 2]? = some (.int .i64 (eff l k).val)
def OpIs (w : World) (bad : Nat → Prop) (xs : List Value) (l : List Opr) : Prop :=
  xs.length = l.length * 4 ∧ ∀ k, k < l.length → ∃ S c T d, xs[k * 4]? = some (.string (opr l k).name) ∧ (opr l k).name.size ≤ 140737488355328 ∧ xs[k * 4 + 1]? = some (.int .i64 (opr l k).cost) ∧
    xs[k * 4 + 2]? = some (.slice S (opr l k).pre.length c) ∧ Fac w bad S (opr l k).pre ∧ xs[k * 4 + 3]? = some (.slice T (opr l k).effs.length d) ∧ Efs w bad T (opr l k).effs

section
variable {w w' : World} {bad bad' : Nat → Prop} {A : Option Addr}
/-- Blocks that lie at good places are kept; what is bad then was bad. -/
structure Moves (w w' : World) (bad bad' : Nat → Prop) : Prop where
  size : w.heap.size ≤ w'.heap.size
  block : ∀ b, b < w.heap.size → ¬ bad b → w'.heap[b]? = w.heap[b]?
  bad : ∀ b, b < w.heap.size → bad' b → bad b
theorem Moves.cell (h : Moves w w' bad bad') {p : Addr} (hp : p.block < w.heap.size) (hb : ¬ bad p.block) : w'.cell? p = w.cell? p := World.cell?_of_block (w := w) (h.block _ hp hb)
theorem Moves.up (hb : Below w.heap.size w w') : Moves w w' bad bad := ⟨hb.size, fun b h _ => hb.block b h, fun _ _ h => h⟩
theorem Moves.grown {row : Option Nat} (hg : w.grownBy w' row) (hr : ∀ b, row = some b → bad b) (hb : ∀ b, b < w.heap.size → bad' b → bad b) : Moves w w' bad bad' :=
  ⟨hg.size, fun b h hn => hg.block b h fun e => hn (hr b e.symm), hb⟩
theorem Moves.set {p : Addr} (u : Value) (hp : bad p.block) : Moves w (w.setCell p u) bad bad :=
  ⟨by simp [World.setCell], fun b h hn => Below.heap_setCell _ _ _ _ (fun e => hn (by rw [e]; exact hp)), fun _ _ h => h⟩
theorem Moves.mono (hb : ∀ b, b < w.heap.size → bad' b → bad b) : Moves w w bad bad' := ⟨Nat.le_refl _, fun _ _ _ => rfl, hb⟩
theorem Moves.trans {w'' : World} {bad'' : Nat → Prop} (h : Moves w w' bad bad') (k : Moves w' w'' bad' bad'') : Moves w w'' bad bad'' :=
  ⟨Nat.le_trans h.size k.size, fun b hb hn => (k.block b (Nat.lt_of_lt_of_le hb h.size) fun h2 => hn (h.bad b hb h2)).trans (h.block b hb hn), fun b hb hn => h.bad b hb (k.bad b (Nat.lt_of_lt_of_le hb h.size) hn)⟩
theorem Fac.move {l : List (Int × Int)} (h : Fac w bad A l) (m : Moves w w' bad bad') : Fac w' bad' A l :=
  ⟨h.1, fun hn => by
    obtain ⟨b, off, e, hb, hx, hc⟩ := h.2 hn
    exact ⟨b, off, e, Nat.lt_of_lt_of_le hb m.size, fun h2 => hx (m.bad b hb h2), fun k hk => ⟨(m.cell (p := ⟨b, _, none⟩) hb hx).trans (hc k hk).1, (m.cell (p := ⟨b, _, none⟩) hb hx).trans (hc k hk).2⟩⟩⟩
theorem Efs.move {l : List Eff} (h : Efs w bad A l) (m : Moves w w' bad bad') : Efs w' bad' A l :=
  ⟨h.1, fun hn => by
    obtain ⟨b, off, e, hb, hx, hc⟩ := h.2 hn
    refine ⟨b, off, e, Nat.lt_of_lt_of_le hb m.size, fun h2 => hx (m.bad b hb h2), fun k hk => ?_⟩
    obtain ⟨S, c, h1, h2, h3, h4⟩ := hc k hk
    exact ⟨S, c, (m.cell (p := ⟨b, _, none⟩) hb hx).trans h1, h2.move m, (m.cell (p := ⟨b, _, none⟩) hb hx).trans h3, (m.cell (p := ⟨b, _, none⟩) hb hx).trans h4⟩⟩
theorem EfIs.move {xs : List Value} {l : List Eff} (h : EfIs w bad xs l) (m : Moves w w' bad bad') : EfIs w' bad' xs l :=
  ⟨h.1, fun k hk => by
    obtain ⟨S, c, h1, h2, h3, h4⟩ := h.2 k hk
    exact ⟨S, c, h1, h2.move m, h3, h4⟩⟩
theorem OpIs.move {xs : List Value} {l : List Opr} (h : OpIs w bad xs l) (m : Moves w w' bad bad') : OpIs w' bad' xs l :=
  ⟨h.1, fun k hk => by
    obtain ⟨S, c, T, d, h1, h2, h3, h4, h5, h6, h7⟩ := h.2 k hk
    exact ⟨S, c, T, d, h1, h2, h3, h4, h5.move m, h6, h7.move m⟩⟩
theorem Fac.at_ {l : List (Int × Int)} (h : Fac w bad A l) : FactsAt w w.heap.size A l :=
  ⟨h.1, fun hn => by
    obtain ⟨b, off, e, hb, hx, hc⟩ := h.2 hn
    exact ⟨b, off, e, hb, hc⟩⟩
theorem Efs.at_ {l : List Eff} (h : Efs w bad A l) : EffsAt w w.heap.size A l :=
  ⟨h.1, fun hn => by
    obtain ⟨b, off, e, hb, hx, hc⟩ := h.2 hn
    refine ⟨b, off, e, hb, fun k hk => ?_⟩
    obtain ⟨S, c, h1, h2, h3, h4⟩ := hc k hk
    exact ⟨S, c, h1, h2.at_, h3, h4⟩⟩
theorem EfIs.nil (w : World) (bad : Nat → Prop) : EfIs w bad [] [] := ⟨rfl, fun k hk => absurd hk (by simp)⟩
theorem OpIs.nil (w : World) (bad : Nat → Prop) : OpIs w bad [] [] := ⟨rfl, fun k hk => absurd hk (by simp)⟩
theorem eff_app {l m : List Eff} {k : Nat} (h : k < l.length) : eff (l ++ m) k = eff l k := by unfold eff; simp [List.getD, List.getElem?_append_left h]
theorem eff_last {l : List Eff} {e : Eff} : eff (l ++ [e]) l.length = e := by unfold eff; simp [List.getD]
theorem opr_app {l m : List Opr} {k : Nat} (h : k < l.length) : opr (l ++ m) k = opr l k := by unfold opr; simp [List.getD, List.getElem?_append_left h]
theorem opr_last {l : List Opr} {e : Opr} : opr (l ++ [e]) l.length = e := by unfold opr; simp [List.getD]
theorem get_app {xs ys : List Value} {i : Nat} {u : Value} (h : xs[i]? = some u) : (xs ++ ys)[i]? = some u := by
  rw [List.getElem?_append_left (List.getElem?_eq_some_iff.1 h).1]; exact h
theorem EfIs.push {xs : List Value} {l : List Eff} (h : EfIs w bad xs l) {S : Option Addr} {c : Nat} {e : Eff} (hf : Fac w bad S e.whn) :
    EfIs w bad (xs ++ [.slice S e.whn.length c, .int .i64 e.var, .int .i64 e.val]) (l ++ [e]) := by
  refine ⟨by rw [List.length_append, List.length_append, h.1]; simp; omega, fun k hk => ?_⟩
  rw [List.length_append] at hk
  by_cases hlt : k < l.length
  · obtain ⟨S', c', h1, h2, h3, h4⟩ := h.2 k hlt
    rw [eff_app hlt]
    exact ⟨S', c', get_app h1, h2, get_app h3, get_app h4⟩
  · have : k = l.length := by simp at hk; omega
    subst this
    rw [eff_last]
    refine ⟨S, c, ?_, hf, ?_, ?_⟩
    · rw [← h.1, List.getElem?_append_right (Nat.le_refl _), Nat.sub_self]; rfl
    · rw [← h.1, List.getElem?_append_right (by omega), Nat.add_sub_cancel_left]; rfl
    · rw [← h.1, List.getElem?_append_right (by omega), Nat.add_sub_cancel_left]; rfl
theorem OpIs.push {xs : List Value} {l : List Opr} (h : OpIs w bad xs l) {S T : Option Addr} {c d : Nat} {o : Opr} (hs : o.name.size ≤ 140737488355328) (hf : Fac w bad S o.pre) (he : Efs w bad T o.effs) :
    OpIs w bad (xs ++ [.string o.name, .int .i64 o.cost, .slice S o.pre.length c, .slice T o.effs.length d]) (l ++ [o]) := by
  refine ⟨by rw [List.length_append, List.length_append, h.1]; simp; omega, fun k hk => ?_⟩
  rw [List.length_append] at hk
  by_cases hlt : k < l.length
  · obtain ⟨S', c', T', d', h1, h2, h3, h4, h5, h6, h7⟩ := h.2 k hlt
    rw [opr_app hlt]
    exact ⟨S', c', T', d', get_app h1, h2, get_app h3, get_app h4, h5, get_app h6, h7⟩
  · have : k = l.length := by simp at hk; omega
    subst this
    rw [opr_last]
    refine ⟨S, c, T, d, ?_, hs, ?_, ?_, hf, ?_, he⟩
    · rw [← h.1, List.getElem?_append_right (Nat.le_refl _), Nat.sub_self]; rfl
    · rw [← h.1, List.getElem?_append_right (by omega), Nat.add_sub_cancel_left]; rfl
    · rw [← h.1, List.getElem?_append_right (by omega), Nat.add_sub_cancel_left]; rfl
    · rw [← h.1, List.getElem?_append_right (by omega), Nat.add_sub_cancel_left]; rfl
theorem own_cell {B s n : Nat} {e : TypeId} {g cap : Nat} {xs : List Value} (h : w.ownsRow B e s (.slice (some ⟨g, 0, none⟩) n cap) n xs) {i : Nat} {u : Value} (hi : xs[i]? = some u) : w.cell? ⟨g, i, none⟩ = some u := by
  rcases h.2 with ⟨h0, _⟩ | ⟨b, cap', cur, h1, hb, hg, hnc, hcm, hcs, htk⟩
  · cases h0
  · injection h1 with h1 _ _
    injection h1 with h1
    injection h1 with h1 _ _
    subst h1
    rw [cell_of_row w g i cur e (0, 0) hg]
    rw [← htk, List.getElem?_take] at hi
    split at hi
    · simpa using hi
    · cases hi
theorem own_view {B s n : Nat} {e : TypeId} {v : Value} {xs : List Value} (h : w.ownsRow B e s v n xs) : (v = .slice none 0 0 ∧ n = 0) ∨ ∃ g cap, v = .slice (some ⟨g, 0, none⟩) n cap ∧ B ≤ g ∧ g < w.heap.size := by
  rcases h.2 with ⟨rfl, h0⟩ | ⟨b, cap, cur, rfl, hb, hg, _⟩
  · exact .inl ⟨rfl, h0⟩
  · exact .inr ⟨b, cap, rfl, hb, (Array.getElem?_eq_some_iff.1 hg).1⟩
/-- A row of the call's own, seen as effects: also its block is at a good place. -/
theorem EfIs.efs {B : Nat} {v : Value} {xs : List Value} {l : List Eff} {e : TypeId} (h : EfIs w bad xs l) (ho : w.ownsRow B e 3 v l.length xs) (hl : l.length ≤ 140737488355328) (hb : ∀ g, B ≤ g → g < w.heap.size → ¬ bad g) :
    ∃ A c, v = .slice A l.length c ∧ (A = none → c = 0) ∧ Efs w bad A l := by
  rcases own_view ho with ⟨rfl, h0⟩ | ⟨g, cap, rfl, hg1, hg2⟩
  · exact ⟨none, 0, by rw [h0], fun _ => rfl, hl, fun hn => absurd hn (by omega)⟩
  · refine ⟨some ⟨g, 0, none⟩, cap, rfl, (fun e => nomatch e), hl, fun _ => ⟨g, 0, rfl, hg2, hb g hg1 hg2, fun k hk => ?_⟩⟩
    obtain ⟨S, c, h1, h2, h3, h4⟩ := h.2 k hk
    refine ⟨S, c, ?_, h2, ?_, ?_⟩
    · have := own_cell ho h1; simpa using this
    · have := own_cell ho h3; simpa using this
    · have := own_cell ho h4; simpa using this
theorem OpIs.ops {B : Nat} {v : Value} {xs : List Value} {l : List Opr} {e : TypeId} (h : OpIs w bad xs l) (ho : w.ownsRow B e 4 v l.length xs) (hl : l.length ≤ 140737488355328) :
    ∃ A c, v = .slice A l.length c ∧ (A = none → c = 0) ∧ OpsAt w w.heap.size A l := by
  rcases own_view ho with ⟨rfl, h0⟩ | ⟨g, cap, rfl, hg1, hg2⟩
  · exact ⟨none, 0, by rw [h0], fun _ => rfl, hl, fun hn => absurd hn (by omega)⟩
  · refine ⟨some ⟨g, 0, none⟩, cap, rfl, (fun e => nomatch e), hl, fun _ => ⟨g, 0, rfl, hg2, fun k hk => ?_⟩⟩
    obtain ⟨S, c, T, d, h1, h2, h3, h4, h5, h6, h7⟩ := h.2 k hk
    refine ⟨S, c, T, d, ?_, h2, ?_, ?_, h5.at_, ?_, h7.at_⟩
    · have := own_cell ho h1; simpa using this
    · have := own_cell ho h3; simpa using this
    · have := own_cell ho h4; simpa using this
    · have := own_cell ho h6; simpa using this
/-- A row of facts of the call's own. -/
def fcl (l : List (Int × Int)) : List Value := l.flatMap fun f => [.int .i64 f.1, .int .i64 f.2]
theorem fcl_get : ∀ (l : List (Int × Int)) (k : Nat), k < l.length → (fcl l)[k * 2]? = some (.int .i64 (fv l k)) ∧ (fcl l)[k * 2 + 1]? = some (.int .i64 (fx l k))
  | f :: l, 0, _ => ⟨rfl, rfl⟩
  | f :: l, k + 1, h => by
    obtain ⟨h1, h2⟩ := fcl_get l k (by simp at h; omega)
    have e : fcl (f :: l) = .int .i64 f.1 :: .int .i64 f.2 :: fcl l := rfl
    rw [e, show (k + 1) * 2 = k * 2 + 1 + 1 by omega]
    exact ⟨h1, h2⟩
theorem fcl_app (a b : List (Int × Int)) : fcl (a ++ b) = fcl a ++ fcl b := by unfold fcl; rw [List.flatMap_append]
theorem own_fac {B n : Nat} {v : Value} {l : List (Int × Int)} {e : TypeId} (ho : w.ownsRow B e 2 v n (fcl l)) (hn : n = l.length) (hl : l.length ≤ 140737488355328) (hb : ∀ g, B ≤ g → g < w.heap.size → ¬ bad g) :
    ∃ A c, v = .slice A l.length c ∧ (A = none → c = 0) ∧ Fac w bad A l := by
  subst hn
  rcases own_view ho with ⟨rfl, h0⟩ | ⟨g, cap, rfl, hg1, hg2⟩
  · exact ⟨none, 0, by rw [h0], fun _ => rfl, hl, fun hn => absurd hn (by omega)⟩
  · refine ⟨some ⟨g, 0, none⟩, cap, rfl, (fun e => nomatch e), hl, fun _ => ⟨g, 0, rfl, hg2, hb g hg1 hg2, fun k hk => ?_⟩⟩
    have h1 := own_cell ho (fcl_get l k hk).1
    have h2 := own_cell ho (fcl_get l k hk).2
    exact ⟨by simpa using h1, by simpa using h2⟩
end
end

end Go.Proofs.YtpobnjbpglaohaaGreat

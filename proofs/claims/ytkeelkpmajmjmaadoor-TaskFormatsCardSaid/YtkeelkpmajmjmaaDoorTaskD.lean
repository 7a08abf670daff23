/- Tasks in memory. -/
import Derived.Test.YtkeelkpmajmjmaaDoorData
namespace Go.Proofs.YtkeelkpmajmjmaaDoor
set_option linter.unusedSimpArgs false
set_option linter.unusedVariables false
open Go.RowKit

structure Eff where
  whn : List (Int × Int)
  var : Int
  val : Int
structure Opr where
  name : ByteArray
  cost : Int
  pre : List (Int × Int)
  effs : List Eff
structure Tsk where
  vars : List Int
  init : List Int
  goal : List (Int × Int)
  ops : List Opr

def Eff.none : Eff := ⟨[], 0, 0⟩
def Opr.none : Opr := ⟨ByteArray.empty, 0, [], []⟩
def eff (l : List Eff) (k : Nat) : Eff := l.getD k Eff.none
def opr (l : List Opr) (k : Nat) : Opr := l.getD k Opr.none
theorem eff_mem {l : List Eff} {k : Nat} (h : k < l.length) : eff l k ∈ l := by unfold eff; simp [List.getD, List.getElem?_eq_getElem h]
theorem opr_mem {l : List Opr} {k : Nat} (h : k < l.length) : opr l k ∈ l := by unfold opr; simp [List.getD, List.getElem?_eq_getElem h]
theorem mem_eff {l : List Eff} {e : Eff} (h : e ∈ l) : ∃ k, k < l.length ∧ e = eff l k := by
  obtain ⟨k, hk, rfl⟩ := List.mem_iff_getElem.1 h
  exact ⟨k, hk, by unfold eff; simp [List.getD, List.getElem?_eq_getElem hk]⟩
theorem mem_opr {l : List Opr} {o : Opr} (h : o ∈ l) : ∃ k, k < l.length ∧ o = opr l k := by
  obtain ⟨k, hk, rfl⟩ := List.mem_iff_getElem.1 h
  exact ⟨k, hk, by unfold opr; simp [List.getD, List.getElem?_eq_getElem hk]⟩

/-- Effects: three cells each. -/
def EffsAt (w : World) (B : Nat) (A : Option Addr) (l : List Eff) : Prop :=
  l.length ≤ 140737488355328 ∧ (0 < l.length → ∃ b off, A = some ⟨b, off, none⟩ ∧ b < B ∧ ∀ k, k < l.length → ∃ S c,
    w.cell? ⟨b, off + k * 3, none⟩ = some (.slice S (eff l k).whn.length c) ∧ FactsAt w B S (eff l k).whn ∧
    w.cell? ⟨b, off + k * 3 + 1, none⟩ = some (.int .i64 (eff l k).var) ∧ w.cell? ⟨b, off + k * 3 + 2, none⟩ = some (.int .i64 (eff l k).val))
/-- Operators: four cells each. -/
def OpsAt (w : World) (B : Nat) (A : Option Addr) (l : List Opr) : Prop :=
  l.length ≤ 140737488355328 ∧ (0 < l.length → ∃ b off, A = some ⟨b, off, none⟩ ∧ b < B ∧ ∀ k, k < l.length → ∃ S c T d,
    w.cell? ⟨b, off + k * 4, none⟩ = some (.string (opr l k).name) ∧ (opr l k).name.size ≤ 140737488355328 ∧ w.cell? ⟨b, off + k * 4 + 1, none⟩ = some (.int .i64 (opr l k).cost) ∧
    w.cell? ⟨b, off + k * 4 + 2, none⟩ = some (.slice S (opr l k).pre.length c) ∧ FactsAt w B S (opr l k).pre ∧
    w.cell? ⟨b, off + k * 4 + 3, none⟩ = some (.slice T (opr l k).effs.length d) ∧ EffsAt w B T (opr l k).effs)
/-- Where a task's parts lie: four addresses, four capacities. -/
structure Lies where
  (av ai ag ao : Option Addr) (cv ci cg co : Nat)
def TaskV (t : Tsk) (p : Lies) : Value := .agg #[.slice p.av t.vars.length p.cv, .slice p.ai t.init.length p.ci, .slice p.ag t.goal.length p.cg, .slice p.ao t.ops.length p.co]
structure TaskAt (w : World) (B : Nat) (t : Tsk) (p : Lies) : Prop where
  vars : IntsAt w B p.av t.vars
  init : IntsAt w B p.ai t.init
  goal : FactsAt w B p.ag t.goal
  ops : OpsAt w B p.ao t.ops

section
variable {w w' : World} {B B' : Nat} {A : Option Addr}
theorem EffsAt.len {l : List Eff} (h : EffsAt w B A l) : l.length ≤ 140737488355328 := h.1
theorem EffsAt.at_ {l : List Eff} (h : EffsAt w B A l) {k : Nat} (hk : k < l.length) : ∃ b off, A = some ⟨b, off, none⟩ ∧ b < B ∧ ∃ S c,
    w.cell? ⟨b, off + k * 3, none⟩ = some (.slice S (eff l k).whn.length c) ∧ FactsAt w B S (eff l k).whn ∧
    w.cell? ⟨b, off + k * 3 + 1, none⟩ = some (.int .i64 (eff l k).var) ∧ w.cell? ⟨b, off + k * 3 + 2, none⟩ = some (.int .i64 (eff l k).val) := by
  obtain ⟨b, off, e, hb, hc⟩ := h.2 (by omega)
  exact ⟨b, off, e, hb, hc k hk⟩
theorem EffsAt.keep {l : List Eff} (h : EffsAt w B A l) (hk : ∀ p : Addr, p.block < B → w'.cell? p = w.cell? p) (hB : B ≤ B') : EffsAt w' B' A l :=
  ⟨h.1, fun hn => by
    obtain ⟨b, off, e, hb, hc⟩ := h.2 hn
    refine ⟨b, off, e, by omega, fun k hlt => ?_⟩
    obtain ⟨S, c, h1, h2, h3, h4⟩ := hc k hlt
    exact ⟨S, c, (hk _ hb).trans h1, h2.keep hk hB, (hk _ hb).trans h3, (hk _ hb).trans h4⟩⟩
theorem EffsAt.below {l : List Eff} (h : EffsAt w B A l) (hb : Below B w w') : EffsAt w' B A l := h.keep (fun _ hp => hb.cell hp) (Nat.le_refl _)
theorem OpsAt.len {l : List Opr} (h : OpsAt w B A l) : l.length ≤ 140737488355328 := h.1
theorem OpsAt.at_ {l : List Opr} (h : OpsAt w B A l) {k : Nat} (hk : k < l.length) : ∃ b off, A = some ⟨b, off, none⟩ ∧ b < B ∧ ∃ S c T d,
    w.cell? ⟨b, off + k * 4, none⟩ = some (.string (opr l k).name) ∧ (opr l k).name.size ≤ 140737488355328 ∧ w.cell? ⟨b, off + k * 4 + 1, none⟩ = some (.int .i64 (opr l k).cost) ∧
    w.cell? ⟨b, off + k * 4 + 2, none⟩ = some (.slice S (opr l k).pre.length c) ∧ FactsAt w B S (opr l k).pre ∧
    w.cell? ⟨b, off + k * 4 + 3, none⟩ = some (.slice T (opr l k).effs.length d) ∧ EffsAt w B T (opr l k).effs := by
  obtain ⟨b, off, e, hb, hc⟩ := h.2 (by omega)
  exact ⟨b, off, e, hb, hc k hk⟩
theorem OpsAt.keep {l : List Opr} (h : OpsAt w B A l) (hk : ∀ p : Addr, p.block < B → w'.cell? p = w.cell? p) (hB : B ≤ B') : OpsAt w' B' A l :=
  ⟨h.1, fun hn => by
    obtain ⟨b, off, e, hb, hc⟩ := h.2 hn
    refine ⟨b, off, e, by omega, fun k hlt => ?_⟩
    obtain ⟨S, c, T, d, h1, h2, h3, h4, h5, h6, h7⟩ := hc k hlt
    exact ⟨S, c, T, d, (hk _ hb).trans h1, h2, (hk _ hb).trans h3, (hk _ hb).trans h4, h5.keep hk hB, (hk _ hb).trans h6, h7.keep hk hB⟩⟩
theorem OpsAt.below {l : List Opr} (h : OpsAt w B A l) (hb : Below B w w') : OpsAt w' B A l := h.keep (fun _ hp => hb.cell hp) (Nat.le_refl _)
theorem TaskAt.keep {t : Tsk} {p : Lies} (h : TaskAt w B t p) (hk : ∀ p : Addr, p.block < B → w'.cell? p = w.cell? p) (hB : B ≤ B') : TaskAt w' B' t p :=
  ⟨h.vars.keep hk hB, h.init.keep hk hB, h.goal.keep hk hB, h.ops.keep hk hB⟩
theorem TaskAt.below {t : Tsk} {p : Lies} (h : TaskAt w B t p) (hb : Below B w w') : TaskAt w' B t p := h.keep (fun _ hp => hb.cell hp) (Nat.le_refl _)
/-- What lay in a world below its size lies in each later one, below that one's size. -/
theorem TaskAt.up {t : Tsk} {p : Lies} (h : TaskAt w w.heap.size t p) (hb : Below w.heap.size w w') : TaskAt w' w'.heap.size t p := h.keep (fun _ hp => hb.cell hp) hb.size
theorem IntsAt.up {l : List Int} (h : IntsAt w w.heap.size A l) (hb : Below w.heap.size w w') : IntsAt w' w'.heap.size A l := h.keep (fun _ hp => hb.cell hp) hb.size
theorem FactsAt.up {l : List (Int × Int)} (h : FactsAt w w.heap.size A l) (hb : Below w.heap.size w w') : FactsAt w' w'.heap.size A l := h.keep (fun _ hp => hb.cell hp) hb.size
end

/-- A task's value lies in the box b. -/
structure Boxed (w : World) (b : Nat) (t : Tsk) (p : Lies) : Prop where
  lt : b < w.heap.size
  c0 : w.cell? ⟨b, 0, none⟩ = some (.slice p.av t.vars.length p.cv)
  c1 : w.cell? ⟨b, 1, none⟩ = some (.slice p.ai t.init.length p.ci)
  c2 : w.cell? ⟨b, 2, none⟩ = some (.slice p.ag t.goal.length p.cg)
  c3 : w.cell? ⟨b, 3, none⟩ = some (.slice p.ao t.ops.length p.co)
theorem Boxed.up {w w' : World} {b : Nat} {t : Tsk} {p : Lies} (h : Boxed w b t p) (hb : Below w.heap.size w w') : Boxed w' b t p :=
  ⟨Nat.lt_of_lt_of_le h.lt hb.size, (hb.cell (p := ⟨b, 0, none⟩) h.lt).trans h.c0, (hb.cell (p := ⟨b, 1, none⟩) h.lt).trans h.c1, (hb.cell (p := ⟨b, 2, none⟩) h.lt).trans h.c2, (hb.cell (p := ⟨b, 3, none⟩) h.lt).trans h.c3⟩

/-- Does one of the first n have it? -/
def anyB (n : Nat) (g : Nat → Bool) : Bool := (List.range n).any g
theorem anyB_zero (g : Nat → Bool) : anyB 0 g = false := rfl
theorem anyB_succ (n : Nat) (g : Nat → Bool) : anyB (n + 1) g = (anyB n g || g n) := by unfold anyB; rw [List.range_succ, List.any_append]; simp
theorem anyB_true {n : Nat} {g : Nat → Bool} : anyB n g = true ↔ ∃ k, k < n ∧ g k = true := by unfold anyB; simp [List.any_eq_true]
theorem anyB_false {n : Nat} {g : Nat → Bool} : anyB n g = false ↔ ∀ k, k < n → g k = false := by unfold anyB; simp [List.any_eq_false]

/-- The name's byte k. -/
def byt (s : ByteArray) (k : Nat) : UInt8 := if h : k < s.size then s[k] else 0
theorem byt_eq {s : ByteArray} {k : Nat} (h : k < s.size) : byt s k = s[k] := by unfold byt; rw [dif_pos h]
/-- A byte that no name has. -/
def bad (s : ByteArray) (k : Nat) : Bool := decide (((byt s k).toNat : Int) < 32) || decide (126 < ((byt s k).toNat : Int))
def lgO (o : Opr) : Bool := (decide ((64 : Int) < o.pre.length) || decide ((64 : Int) < o.effs.length)) || anyB o.effs.length fun k => decide ((64 : Int) < (eff o.effs k).whn.length)
def lgT (t : Tsk) : Bool := ((decide ((64 : Int) < t.vars.length) || decide ((4096 : Int) < t.ops.length)) || decide ((64 : Int) < t.goal.length)) || anyB t.ops.length fun k => lgO (opr t.ops k)
def outT (t : Tsk) : Bool := (anyB t.vars.length fun k => decide (nth t.vars k < 1) || decide (64 < nth t.vars k)) || anyB t.ops.length fun k => decide ((opr t.ops k).cost < 0) || decide (1048576 < (opr t.ops k).cost)
def malE (vars : List Int) (e : Eff) : Bool := !faB vars e.whn || !faB vars [(e.var, e.val)]
def malO (vars : List Int) (o : Opr) : Bool := !faB vars o.pre || anyB o.effs.length fun k => malE vars (eff o.effs k)
def malT (t : Tsk) : Bool := (!stB t.vars t.init || !faB t.vars t.goal) || anyB t.ops.length fun k => malO t.vars (opr t.ops k)
def misO (s : ByteArray) : Bool := decide ((256 : Int) < s.size) || anyB s.size (bad s)
def misT (t : Tsk) : Bool := anyB t.ops.length fun k => misO (opr t.ops k).name
/-- The number of the error. -/
def chkC (t : Tsk) : Int := if lgT t then 5 else if outT t then 1 else if malT t then 2 else if misT t then 8 else 0

section
variable {w w' : World} {B : Nat} {A : Option Addr}
theorem EffsAt.at2 {l : List Eff} (h : EffsAt w B A l) (hb : Below B w w') {k : Nat} (hk : k < l.length) : ∃ b off S c, A = some ⟨b, off, none⟩ ∧ b < B ∧
    w'.cell? ⟨b, off + k * 3, none⟩ = some (.slice S (eff l k).whn.length c) ∧ FactsAt w B S (eff l k).whn ∧
    w'.cell? ⟨b, off + k * 3 + 1, none⟩ = some (.int .i64 (eff l k).var) ∧ w'.cell? ⟨b, off + k * 3 + 2, none⟩ = some (.int .i64 (eff l k).val) := by
  obtain ⟨b, off, e, hlt, S, c, h1, h2, h3, h4⟩ := h.at_ hk
  exact ⟨b, off, S, c, e, hlt, (hb.cell hlt).trans h1, h2, (hb.cell hlt).trans h3, (hb.cell hlt).trans h4⟩
theorem OpsAt.at2 {l : List Opr} (h : OpsAt w B A l) (hb : Below B w w') {k : Nat} (hk : k < l.length) : ∃ b off S c T d, A = some ⟨b, off, none⟩ ∧ b < B ∧
    w'.cell? ⟨b, off + k * 4, none⟩ = some (.string (opr l k).name) ∧ (opr l k).name.size ≤ 140737488355328 ∧ w'.cell? ⟨b, off + k * 4 + 1, none⟩ = some (.int .i64 (opr l k).cost) ∧
    w'.cell? ⟨b, off + k * 4 + 2, none⟩ = some (.slice S (opr l k).pre.length c) ∧ FactsAt w B S (opr l k).pre ∧
    w'.cell? ⟨b, off + k * 4 + 3, none⟩ = some (.slice T (opr l k).effs.length d) ∧ EffsAt w B T (opr l k).effs := by
  obtain ⟨b, off, e, hlt, S, c, T, d, h1, h2, h3, h4, h5, h6, h7⟩ := h.at_ hk
  exact ⟨b, off, S, c, T, d, e, hlt, (hb.cell hlt).trans h1, h2, (hb.cell hlt).trans h3, (hb.cell hlt).trans h4, h5, (hb.cell hlt).trans h6, h7⟩
end

end Go.Proofs.YtkeelkpmajmjmaaDoor

/- Texts laid together: TaskD, TaskB, TaskC, RankP, Kp, Fac. -/
import Derived.Test.YtaampjhdgeoicaaMfC
import Derived.Test.YtaampjhdgeoicaaMfA
import Derived.LoopTactic
import Derived.Deep.LoopGhost
import Derived.Deep.DeepCutAuto
namespace Go.Proofs.Ytaampjhdgeoicaa
set_option linter.unusedSimpArgs false
set_option linter.unusedVariables false
section
open Go.RowKit

structure Eff where
  whn : List (Int × Int)
  var : Int
  val : Int
structure Opr where
  name : ByteArray
  cost : Int
  pre : List (Int × Int)
  effs : List Eff
structure Tsk where
  vars : List Int
  init : List Int
  goal : List (Int × Int)
  ops : List Opr

def Eff.none : Eff := ⟨[], 0, 0⟩
def Opr.none : Opr := ⟨ByteArray.empty, 0, [], []⟩
def eff (l : List Eff) (k : Nat) : Eff := l.getD k Eff.none
def opr (l : List Opr) (k : Nat) : Opr := l.getD k Opr.none
theorem eff_mem {l : List Eff} {k : Nat} (h : k < l.length) : eff l k ∈ l := by unfold eff; simp [List.getD, List.getElem?_eq_getElem h]
theorem opr_mem {l : List Opr} {k : Nat} (h : k < l.length) : opr l k ∈ l := by unfold opr; simp [List.getD, List.getElem?_eq_getElem h]
theorem mem_eff {l : List Eff} {e : Eff} (h : e ∈ l) : ∃ k, k < l.length ∧ e = eff l k := by
  obtain ⟨k, hk, rfl⟩ := List.mem_iff_getElem.1 h
  exact ⟨k, hk, by unfold eff; simp [List.getD, List.getElem?_eq_getElem hk]⟩
theorem mem_opr {l : List Opr} {o : Opr} (h : o ∈ l) : ∃ k, k < l.length ∧ o = opr l k := by
  obtain ⟨k, hk, rfl⟩ := List.mem_iff_getElem.1 h
  exact ⟨k, hk, by unfold opr; simp [List.getD, List.getElem?_eq_getElem hk]⟩

/-- Effects: three cells each. -/
def EffsAt (w : World) (B : Nat) (A : Option Addr) (l : List Eff) : Prop :=
  l.length ≤ 140737488355328 ∧ (0 < l.length → ∃ b off, A = some ⟨b, off, none⟩ ∧ b < B ∧ ∀ k, k < l.length → ∃ S c,
    w.cell? ⟨b, off + k * 3, none⟩ = some (.slice S (eff l k).whn.length c) ∧ FactsAt w B S (eff l k).whn ∧
    w.cell? ⟨b, off + k * 3 + 1, none⟩ = some (.int .i64 (eff l k).var) ∧ w.cell? ⟨b, off + k * 3 + 2, none⟩ = some (.int .i64 (eff l k).val))
/-- Operators: four cells each. -/
def OpsAt (w : World) (B : Nat) (A : Option Addr) (l : List Opr) : Prop :=
  l.length ≤ 140737488355328 ∧ (0 < l.length → ∃ b off, A = some ⟨b, off, none⟩ ∧ b < B ∧ ∀ k, k < l.length → ∃ S c T d,
    w.cell? ⟨b, off + k * 4, none⟩ = some (.string (opr l k).name) ∧ (opr l k).name.size ≤ 140737488355328 ∧ w.cell? ⟨b, off + k * 4 + 1, none⟩ = some (.int .i64 (opr l k).cost) ∧
    w.cell? ⟨b, off + k * 4 + 2, none⟩ = some (.slice S (opr l k).pre.length c) ∧ FactsAt w B S (opr l k).pre ∧
    w.cell? ⟨b, off + k * 4 + 3, none⟩ = some (.slice T (opr l k).effs.length d) ∧ EffsAt w B T (opr l k).effs)
/-- Where a task's parts lie: four addresses, four capacities. -/
structure Lies where
  (av ai ag ao : Option Addr) (cv ci cg co : Nat)
def TaskV (t : Tsk) (p : Lies) : Value := .agg #[.slice p.av t.vars.length p.cv, .slice p.ai t.init.length p.ci, .slice p.ag t.goal.length p.cg, .slice p.ao t.ops.length p.co]
structure TaskAt (w : World) (B : Nat) (t : Tsk) (p : Lies) : Prop where
  vars : IntsAt w B p.av t.vars
  init : IntsAt w B p.ai t.init
  goal : FactsAt w B p.ag t.goal
  ops : OpsAt w B p.ao t.ops

section
variable {w w' : World} {B B' : Nat} {A : Option Addr}
theorem EffsAt.len {l : List Eff} (h : EffsAt w B A l) : l.length ≤ 140737488355328 := h.1
theorem EffsAt.at_ {l : List Eff} (h : EffsAt w B A l) {k : Nat} (hk : k < l.length) : ∃ b off, A = some ⟨b, off, none⟩ ∧ b < B ∧ ∃ S c,
    w.cell? ⟨b, off + k * 3, none⟩ = some (.slice S (eff l k).whn.length c) ∧ FactsAt w B S (eff l k).whn ∧
    w.cell? ⟨b, off + k * 3 + 1, none⟩ = some (.int .i64 (eff l k).var) ∧ w.cell? ⟨b, off + k * 3 + 2, none⟩ = some (.int .i64 (eff l k).val) := by
  obtain ⟨b, off, e, hb, hc⟩ := h.2 (by omega)
  exact ⟨b, off, e, hb, hc k hk⟩
theorem EffsAt.keep {l : List Eff} (h : EffsAt w B A l) (hk : ∀ p : Addr, p.block < B → w'.cell? p = w.cell? p) (hB : B ≤ B') : EffsAt w' B' A l :=
  ⟨h.1, fun hn => by
    obtain ⟨b, off, e, hb, hc⟩ := h.2 hn
    refine ⟨b, off, e, by omega, fun k hlt => ?_⟩
    obtain ⟨S, c, h1, h2, h3, h4⟩ := hc k hlt
    exact ⟨S, c, (hk _ hb).trans h1, h2.keep hk hB, (hk _ hb).trans h3, (hk _ hb).trans h4⟩⟩
theorem EffsAt.below {l : List Eff} (h : EffsAt w B A l) (hb : Below B w w') : EffsAt w' B A l := h.keep (fun _ hp => hb.cell hp) (Nat.le_refl _)
theorem OpsAt.len {l : List Opr} (h : OpsAt w B A l) : l.length ≤ 140737488355328 := h.1
theorem OpsAt.at_ {l : List Opr} (h : OpsAt w B A l) {k : Nat} (hk : k < l.length) : ∃ b off, A = some ⟨b, off, none⟩ ∧ b < B ∧ ∃ S c T d,
    w.cell? ⟨b, off + k * 4, none⟩ = some (.string (opr l k).name) ∧ (opr l k).name.size ≤ 140737488355328 ∧ w.cell? ⟨b, off + k * 4 + 1, none⟩ = some (.int .i64 (opr l k).cost) ∧
    w.cell? ⟨b, off + k * 4 + 2, none⟩ = some (.slice S (opr l k).pre.length c) ∧ FactsAt w B S (opr l k).pre ∧
    w.cell? ⟨b, off + k * 4 + 3, none⟩ = some (.slice T (opr l k).effs.length d) ∧ EffsAt w B T (opr l k).effs := by
  obtain ⟨b, off, e, hb, hc⟩ := h.2 (by omega)
  exact ⟨b, off, e, hb, hc k hk⟩
theorem OpsAt.keep {l : List Opr} (h : OpsAt w B A l) (hk : ∀ p : Addr, p.block < B → w'.cell? p = w.cell? p) (hB : B ≤ B') : OpsAt w' B' A l :=
  ⟨h.1, fun hn => by
    obtain ⟨b, off, e, hb, hc⟩ := h.2 hn
    refine ⟨b, off, e, by omega, fun k hlt => ?_⟩
    obtain ⟨S, c, T, d, h1, h2, h3, h4, h5, h6, h7⟩ := hc k hlt
    exact ⟨S, c, T, d, (hk _ hb).trans h1, h2, (hk _ hb).trans h3, (hk _ hb).trans h4, h5.keep hk hB, (hk _ hb).trans h6, h7.keep hk hB⟩⟩
theorem OpsAt.below {l : List Opr} (h : OpsAt w B A l) (hb : Below B w w') : OpsAt w' B A l := h.keep (fun _ hp => hb.cell hp) (Nat.le_refl _)
theorem TaskAt.keep {t : Tsk} {p : Lies} (h : TaskAt w B t p) (hk : ∀ p : Addr, p.block < B → w'.cell? p = w.cell? p) (hB : B ≤ B') : TaskAt w' B' t p :=
  ⟨h.vars.keep hk hB, h.init.keep hk hB, h.goal.keep hk hB, h.ops.keep hk hB⟩
theorem TaskAt.below {t : Tsk} {p : Lies} (h : TaskAt w B t p) (hb : Below B w w') : TaskAt w' B t p := h.keep (fun _ hp => hb.cell hp) (Nat.le_refl _)
/-- What lay in a world below its size lies in each later one, below that one's size. -/
theorem TaskAt.up {t : Tsk} {p : Lies} (h : TaskAt w w.heap.size t p) (hb : Below w.heap.size w w') : TaskAt w' w'.heap.size t p := h.keep (fun _ hp => hb.cell hp) hb.size
end

/-- A task's value lies in the box b. -/
structure Boxed (w : World) (b : Nat) (t : Tsk) (p : Lies) : Prop where
  lt : b < w.heap.size
  c0 : w.cell? ⟨b, 0, none⟩ = some (.slice p.av t.vars.length p.cv)
  c1 : w.cell? ⟨b, 1, none⟩ = some (.slice p.ai t.init.length p.ci)
  c2 : w.cell? ⟨b, 2, none⟩ = some (.slice p.ag t.goal.length p.cg)
  c3 : w.cell? ⟨b, 3, none⟩ = some (.slice p.ao t.ops.length p.co)
theorem Boxed.up {w w' : World} {b : Nat} {t : Tsk} {p : Lies} (h : Boxed w b t p) (hb : Below w.heap.size w w') : Boxed w' b t p :=
  ⟨Nat.lt_of_lt_of_le h.lt hb.size, (hb.cell (p := ⟨b, 0, none⟩) h.lt).trans h.c0, (hb.cell (p := ⟨b, 1, none⟩) h.lt).trans h.c1, (hb.cell (p := ⟨b, 2, none⟩) h.lt).trans h.c2, (hb.cell (p := ⟨b, 3, none⟩) h.lt).trans h.c3⟩

/-- The name's byte k. -/
def byt (s : ByteArray) (k : Nat) : UInt8 := if h : k < s.size then s[k] else 0
theorem byt_eq {s : ByteArray} {k : Nat} (h : k < s.size) : byt s k = s[k] := by unfold byt; rw [dif_pos h]
/-- A byte that no name has. -/
def bad (s : ByteArray) (k : Nat) : Bool := decide (((byt s k).toNat : Int) < 32) || decide (126 < ((byt s k).toNat : Int))
def lgO (o : Opr) : Bool := (decide ((64 : Int) < o.pre.length) || decide ((64 : Int) < o.effs.length)) || anyB o.effs.length fun k => decide ((64 : Int) < (eff o.effs k).whn.length)
def lgT (t : Tsk) : Bool := ((decide ((64 : Int) < t.vars.length) || decide ((4096 : Int) < t.ops.length)) || decide ((64 : Int) < t.goal.length)) || anyB t.ops.length fun k => lgO (opr t.ops k)
def outT (t : Tsk) : Bool := (anyB t.vars.length fun k => decide (nth t.vars k < 1) || decide (64 < nth t.vars k)) || anyB t.ops.length fun k => decide ((opr t.ops k).cost < 0) || decide (1048576 < (opr t.ops k).cost)
def malE (vars : List Int) (e : Eff) : Bool := !faB vars e.whn || !faB vars [(e.var, e.val)]
def malO (vars : List Int) (o : Opr) : Bool := !faB vars o.pre || anyB o.effs.length fun k => malE vars (eff o.effs k)
def malT (t : Tsk) : Bool := (!stB t.vars t.init || !faB t.vars t.goal) || anyB t.ops.length fun k => malO t.vars (opr t.ops k)
def misO (s : ByteArray) : Bool := decide ((256 : Int) < s.size) || anyB s.size (bad s)
def misT (t : Tsk) : Bool := anyB t.ops.length fun k => misO (opr t.ops k).name
/-- The number of the error. -/
def chkC (t : Tsk) : Int := if lgT t then 5 else if outT t then 1 else if malT t then 2 else if misT t then 8 else 0

section
variable {w w' : World} {B : Nat} {A : Option Addr}
theorem EffsAt.at2 {l : List Eff} (h : EffsAt w B A l) (hb : Below B w w') {k : Nat} (hk : k < l.length) : ∃ b off S c, A = some ⟨b, off, none⟩ ∧ b < B ∧
    w'.cell? ⟨b, off + k * 3, none⟩ = some (.slice S (eff l k).whn.length c) ∧ FactsAt w B S (eff l k).whn ∧
    w'.cell? ⟨b, off + k * 3 + 1, none⟩ = some (.int .i64 (eff l k).var) ∧ w'.cell? ⟨b, off + k * 3 + 2, none⟩ = some (.int .i64 (eff l k).val) := by
  obtain ⟨b, off, e, hlt, S, c, h1, h2, h3, h4⟩ := h.at_ hk
  exact ⟨b, off, S, c, e, hlt, (hb.cell hlt).trans h1, h2, (hb.cell hlt).trans h3, (hb.cell hlt).trans h4⟩
theorem OpsAt.at2 {l : List Opr} (h : OpsAt w B A l) (hb : Below B w w') {k : Nat} (hk : k < l.length) : ∃ b off S c T d, A = some ⟨b, off, none⟩ ∧ b < B ∧
    w'.cell? ⟨b, off + k * 4, none⟩ = some (.string (opr l k).name) ∧ (opr l k).name.size ≤ 140737488355328 ∧ w'.cell? ⟨b, off + k * 4 + 1, none⟩ = some (.int .i64 (opr l k).cost) ∧
    w'.cell? ⟨b, off + k * 4 + 2, none⟩ = some (.slice S (opr l k).pre.length c) ∧ FactsAt w B S (opr l k).pre ∧
    w'.cell? ⟨b, off + k * 4 + 3, none⟩ = some (.slice T (opr l k).effs.length d) ∧ EffsAt w B T (opr l k).effs := by
  obtain ⟨b, off, e, hlt, S, c, T, d, h1, h2, h3, h4, h5, h6, h7⟩ := h.at_ hk
  exact ⟨b, off, S, c, T, d, e, hlt, (hb.cell hlt).trans h1, h2, (hb.cell hlt).trans h3, (hb.cell hlt).trans h4, h5, (hb.cell hlt).trans h6, h7⟩
end
end

section
open Go.RowKit
set_option linter.unusedVariables false

end

section
open Go.RowKit
set_option linter.unusedVariables false

set_option maxHeartbeats 1000000 in
theorem named_any (s : ByteArray) (w : World) (hs : s.size ≤ 140737488355328) :
    Calls Try.prog 106 #[.string s] w fun e w' => e = .returned (.bool (!misO s)) ∧ Below w.heap.size w w' := by
  go_enter Try.func106, Try.ntmps106
  go_wp2
  go_loopw [6] (fun i wr => ∃ (k : Nat), k ≤ s.size ∧ i = .int .i64 k ∧ anyB k (bad s) = false ∧ Below w.heap.size w wr) (fun i _ => s.size - (intOf i).toNat)
  case atStart => exact ⟨0, by omega, rfl, rfl, by repeat (first | exact Below.refl _ _ | refine below_dN ?_ _ | refine Below.drew ?_ | refine Below.alloc ?_ (by first | omega | (simp; done) | (simp; omega)) _ | refine Below.setCell ?_ (by first | omega | (simp; done) | (simp; omega)) _ | refine below_step (by assumption) (by first | omega | (simp; done) | (simp; omega)) ?_)⟩
  case round =>
    obtain ⟨k, hk, rfl, hB, hbel⟩ := hrel
    have HB := Lib.hid hB
    clear hB
    by_cases hlt : k < s.size
    · cases e1 : decide ((s[k].toNat : Int) < 32) <;> cases e2 : decide (126 < (s[k].toNat : Int)) <;> go_wp2
      all_goals first
        | (go_roundw
           case rel => exact ⟨k + 1, by omega, by go_num, (by rw [anyB_succ, HB.out]; unfold bad; rw [byt_eq hlt, e1, e2]; rfl), by repeat (first | exact Below.refl _ _ | refine below_dN ?_ _ | refine Below.drew ?_ | refine Below.alloc ?_ (by first | omega | (simp; done) | (simp; omega)) _ | refine Below.setCell ?_ (by first | omega | (simp; done) | (simp; omega)) _ | refine below_step (by assumption) (by first | omega | (simp; done) | (simp; omega)) ?_)⟩
           case measure => simp [intOf]; omega)
        | (go_ret
           refine ⟨bool_ret ?_, by repeat (first | exact Below.refl _ _ | refine below_dN ?_ _ | refine Below.drew ?_ | refine Below.alloc ?_ (by first | omega | (simp; done) | (simp; omega)) _ | refine Below.setCell ?_ (by first | omega | (simp; done) | (simp; omega)) _ | refine below_step (by assumption) (by first | omega | (simp; done) | (simp; omega)) ?_)⟩
           have hf : anyB s.size (bad s) = true := anyB_true.2 ⟨k, hlt, by unfold bad; rw [byt_eq hlt, e1, e2]; rfl⟩
           unfold misO
           rw [hf, Bool.or_true]; rfl)
    · cases e1 : decide ((s.size : Int) ≤ 256) <;>
        (go_wp2
         go_ret
         refine ⟨bool_ret ?_, by repeat (first | exact Below.refl _ _ | refine below_dN ?_ _ | refine Below.drew ?_ | refine Below.alloc ?_ (by first | omega | (simp; done) | (simp; omega)) _ | refine Below.setCell ?_ (by first | omega | (simp; done) | (simp; omega)) _ | refine below_step (by assumption) (by first | omega | (simp; done) | (simp; omega)) ?_)⟩
         unfold misO
         rw [show s.size = k by omega, HB.out, Bool.or_false]
         simp at e1 ⊢
         omega)

end

section
set_option linter.unusedVariables false

/-- The product of the first k numbers; at most one more than 65536. -/
def pr (l : List Int) : Nat → Int
  | 0 => 1
  | k + 1 => pr l k * nth l k
def mny (l : List Int) : Int := if 65536 < pr l l.length then 65537 else pr l l.length
theorem pr_pos {l : List Int} {n : Nat} (h : ∀ k, k < n → 1 ≤ nth l k) : 1 ≤ pr l n := by
  induction n with
  | zero => exact Int.le_refl _
  | succ n ih =>
    have h1 := ih fun k hk => h k (by omega)
    have h2 := h n (by omega)
    unfold pr
    have := Int.mul_le_mul h1 h2 (by omega) (by omega)
    omega
theorem pr_mono {l : List Int} {n : Nat} (h : ∀ k, k < n → 1 ≤ nth l k) {j : Nat} (hj : j ≤ n) : pr l j ≤ pr l n := by
  induction n with
  | zero => rw [show j = 0 by omega]; exact Int.le_refl _
  | succ n ih =>
    rcases Nat.lt_or_ge n j with h1 | h1
    · rw [show j = n + 1 by omega]; exact Int.le_refl _
    · have h2 := ih (fun k hk => h k (by omega)) h1
      have h3 := pr_pos (l := l) (n := n) fun k hk => h k (by omega)
      have h4 := h n (by omega)
      have h5 : pr l (n + 1) = pr l n * nth l n := rfl
      have h6 := Int.mul_le_mul_of_nonneg_left h4 (show 0 ≤ pr l n by omega)
      omega
theorem pr_step {l : List Int} {k : Nat} {M : Int} (h0 : 1 ≤ pr l k) (h1 : pr l k ≤ M) (h2 : 1 ≤ nth l k) (h3 : nth l k ≤ 64) (hM : M ≤ 65537) : 1 ≤ pr l k * nth l k ∧ pr l k * nth l k ≤ 4194368 := by
  have a := Int.mul_le_mul h0 h2 (by omega) (by omega)
  have b := Int.mul_le_mul h1 h3 (by omega) (by omega)
  omega

/-- The rank: mixed radix. -/
def rk (vars s : List Int) : Nat → Int
  | 0 => 0
  | k + 1 => rk vars s k * nth vars k + nth s k
theorem rk_bd {vars s : List Int} {n : Nat} (h : ∀ k, k < n → 0 ≤ nth s k ∧ nth s k < nth vars k) : 0 ≤ rk vars s n ∧ rk vars s n < pr vars n := by
  induction n with
  | zero => exact ⟨Int.le_refl _, by unfold rk pr; omega⟩
  | succ n ih =>
    have ⟨h1, h2⟩ := ih fun k hk => h k (by omega)
    have ⟨h3, h4⟩ := h n (by omega)
    have e1 : rk vars s (n + 1) = rk vars s n * nth vars n + nth s n := rfl
    have e2 : pr vars (n + 1) = pr vars n * nth vars n := rfl
    have a := Int.mul_nonneg h1 (show 0 ≤ nth vars n by omega)
    have b := Int.mul_le_mul_of_nonneg_right (show rk vars s n ≤ pr vars n - 1 by omega) (show 0 ≤ nth vars n by omega)
    rw [Int.sub_mul] at b
    omega

/-- What is left of n behind d digits; the digits. -/
def nd (vars : List Int) (n : Int) : Nat → Int
  | 0 => n
  | d + 1 => nd vars n d / nth vars (vars.length - 1 - d)
def od (vars : List Int) (n : Int) : Nat → List Int
  | 0 => List.replicate vars.length 0
  | d + 1 => (od vars n d).set (vars.length - 1 - d) (nd vars n d % nth vars (vars.length - 1 - d))
theorem od_len (vars : List Int) (n : Int) (d : Nat) : (od vars n d).length = vars.length := by
  induction d with
  | zero => simp [od]
  | succ d ih => unfold od; simp [ih]
theorem nth_set {l : List Int} {i j : Nat} {x : Int} (hi : i < l.length) : nth (l.set i x) j = if i = j then x else nth l j := by
  unfold nth
  simp only [List.getD, List.getElem?_set]
  split
  · simp [hi]
  · rfl
theorem od_get {vars : List Int} {n : Int} : ∀ (d : Nat), d ≤ vars.length → ∀ v, v < vars.length → vars.length - d ≤ v → nth (od vars n d) v = nd vars n (vars.length - 1 - v) % nth vars v
  | 0, _, v, hv, hd => by omega
  | d + 1, hl, v, hv, hd => by
    unfold od
    rw [nth_set (by rw [od_len]; omega)]
    split
    · rename_i h
      rw [show vars.length - 1 - v = d by omega, h]
    · exact od_get d (by omega) v hv (by omega)
theorem nd_bd {vars : List Int} {n : Int} (h : ∀ k, k < vars.length → 1 ≤ nth vars k) (h0 : 0 ≤ n) (h1 : n < pr vars vars.length) : ∀ (d : Nat), d ≤ vars.length → 0 ≤ nd vars n d ∧ nd vars n d < pr vars (vars.length - d)
  | 0, _ => ⟨h0, h1⟩
  | d + 1, hd => by
    have ⟨a, b⟩ := nd_bd h h0 h1 d (by omega)
    have hv := h (vars.length - 1 - d) (by omega)
    have e : nd vars n (d + 1) = nd vars n d / nth vars (vars.length - 1 - d) := rfl
    rw [e]
    refine ⟨Int.ediv_nonneg a (by omega), Int.ediv_lt_of_lt_mul (by omega) ?_⟩
    have e2 : pr vars (vars.length - d) = pr vars (vars.length - (d + 1)) * nth vars (vars.length - 1 - d) := by
      rw [show vars.length - d = (vars.length - (d + 1)) + 1 by omega, show vars.length - 1 - d = vars.length - (d + 1) by omega]; rfl
    omega
theorem rk_od {vars : List Int} {n : Int} (h : ∀ k, k < vars.length → 1 ≤ nth vars k) (h0 : 0 ≤ n) (h1 : n < pr vars vars.length) : ∀ (v : Nat), v ≤ vars.length → rk vars (od vars n vars.length) v = nd vars n (vars.length - v)
  | 0, _ => by
    have ⟨a, b⟩ := nd_bd h h0 h1 vars.length (Nat.le_refl _)
    rw [show vars.length - vars.length = 0 by omega] at b
    have : pr vars 0 = 1 := rfl
    show (0 : Int) = nd vars n (vars.length - 0)
    rw [show vars.length - 0 = vars.length by omega]
    omega
  | v + 1, hv => by
    have ih := rk_od h h0 h1 v (by omega)
    show rk vars (od vars n vars.length) v * nth vars v + nth (od vars n vars.length) v = _
    rw [ih, od_get vars.length (Nat.le_refl _) v (by omega) (by omega), show vars.length - v = (vars.length - 1 - v) + 1 by omega]
    have e : nd vars n ((vars.length - 1 - v) + 1) = nd vars n (vars.length - 1 - v) / nth vars v := by
      show nd vars n (vars.length - 1 - v) / nth vars (vars.length - 1 - (vars.length - 1 - v)) = _
      rw [show vars.length - 1 - (vars.length - 1 - v) = v by omega]
    rw [e, show vars.length - (v + 1) = vars.length - 1 - v by omega, Int.mul_comm]
    exact Int.mul_ediv_add_emod _ _
theorem od_st {vars : List Int} {n : Int} (h : ∀ k, k < vars.length → 1 ≤ nth vars k) : StP vars (od vars n vars.length) := by
  refine ⟨od_len _ _ _, fun k hk => ?_⟩
  rw [od_len] at hk
  rw [od_get vars.length (Nat.le_refl _) k hk (by omega)]
  have := h k hk
  exact ⟨Int.emod_nonneg _ (by omega), Int.emod_lt_of_pos _ (by omega)⟩
theorem rank_unrank {vars : List Int} {n : Int} (h : ∀ k, k < vars.length → 1 ≤ nth vars k) (h0 : 0 ≤ n) (h1 : n < pr vars vars.length) : rk vars (od vars n vars.length) vars.length = n := by
  rw [rk_od h h0 h1 _ (Nat.le_refl _), show vars.length - vars.length = 0 by omega]; rfl
end

section
open Go Go.RowKit
set_option linter.unusedVariables false

structure Kp (lo hi : Nat) (w w' : World) : Prop where
  os : w'.os = w.os
  tape : w'.tape = w.tape
  output : w'.output = w.output
  size : w.heap.size ≤ w'.heap.size
  block : ∀ k, k < w.heap.size → (k < lo ∨ hi ≤ k) → w'.heap[k]? = w.heap[k]?
section
variable {lo hi : Nat} {w w' w'' : World}
theorem Kp.refl (lo hi : Nat) (w : World) : Kp lo hi w w := ⟨rfl, rfl, rfl, Nat.le_refl _, fun _ _ _ => rfl⟩
theorem Kp.trans (h : Kp lo hi w w') (k : Kp lo hi w' w'') : Kp lo hi w w'' :=
  ⟨k.os.trans h.os, k.tape.trans h.tape, k.output.trans h.output, Nat.le_trans h.size k.size, fun i hi ho => (k.block i (Nat.lt_of_lt_of_le hi h.size) ho).trans (h.block i hi ho)⟩
theorem Kp.of_below (h : Below w.heap.size w w') : Kp lo hi w w' := ⟨h.os, h.tape, h.output, h.size, fun k hk _ => h.block k hk⟩
theorem Kp.up (h : Kp lo hi w w') (hb : Below w'.heap.size w' w'') : Kp lo hi w w'' := h.trans (Kp.of_below hb)
theorem Kp.alloc (h : Kp lo hi w w') (o : Obj) : Kp lo hi w (w'.alloc o) := h.up ((Below.refl _ _).alloc (Nat.le_refl _) _)
theorem Kp.drew (h : Kp lo hi w w') : Kp lo hi w w'.drew := h.up (Below.refl _ _).drew
theorem Kp.set (h : Kp lo hi w w') {p : Addr} (h1 : lo ≤ p.block) (h2 : p.block < hi) (u : Value) : Kp lo hi w (w'.setCell p u) :=
  h.trans ⟨rfl, rfl, rfl, by simp [World.setCell], fun k hk ho => Below.heap_setCell _ _ _ _ (by omega)⟩
theorem Kp.cell (h : Kp lo hi w w') {p : Addr} (hp : p.block < w.heap.size) (ho : p.block < lo ∨ hi ≤ p.block) : w'.cell? p = w.cell? p := World.cell?_of_block (w := w) (h.block _ hp ho)
theorem Kp.below {B : Nat} (h : Kp lo hi w w') (hB : B ≤ lo) (hw : B ≤ w.heap.size) : Below B w w' := ⟨h.os, h.tape, h.output, h.size, fun k hk => h.block k (by omega) (.inl (by omega))⟩
end

/-- A table of booleans of n rows that is being made: r rows are there. -/
structure MkM (wr : World) (g n r : Nat) (rb L : Nat → Nat) (M : Nat → Nat → Bool) : Prop where
  top : wr.rowIs g 87 n fun j => if j < r then .slice (some ⟨rb j, 0, none⟩) (L j) (L j) else .slice none 0 0
  row : ∀ j, j < r → wr.rowIs (rb j) 4 (L j) fun c => .bool (M j c)
theorem MkM.start (w : World) (n : Nat) (rb L : Nat → Nat) (M : Nat → Nat → Bool) : MkM (w.alloc (.cells (madeCells #[.slice none 0 0] n) 87)) w.heap.size n 0 rb L M :=
  ⟨(World.rowIs_made w _ n 87).congr fun j _ => by simp, fun j hj => absurd hj (Nat.not_lt_zero _)⟩
/-- A row more: made, and stored. -/
theorem MkM.next {wr : World} {g n r : Nat} {rb L : Nat → Nat} {M : Nat → Nat → Bool} (h : MkM wr g n r rb L M) (hr : r < n) (hb : rb r = wr.heap.size) (hg : ∀ j, j < r → rb j ≠ g) (hM : ∀ c, c < L r → M r c = false) :
    MkM ((wr.setCell ⟨g, r, none⟩ (.slice (some ⟨wr.heap.size, 0, none⟩) (L r) (L r))).alloc (.cells (madeCells #[.bool false] (L r)) 4)) g n (r + 1) rb L M := by
  have hgl := h.top.lt
  have hsz : (wr.setCell ⟨g, r, none⟩ (.slice (some ⟨wr.heap.size, 0, none⟩) (L r) (L r))).heap.size = wr.heap.size := by simp [World.setCell]
  refine ⟨((h.top.set r _).alloc _).congr fun j _ => ?_, fun j hj => ?_⟩
  · by_cases e : j = r
    · subst e; simp [hb]
    · rw [if_neg e]
      by_cases hlt : j < r
      · rw [if_pos hlt, if_pos (by omega)]
      · rw [if_neg hlt, if_neg (by omega)]
  · by_cases e : j = r
    · subst e
      have h1 := World.rowIs_made (wr.setCell ⟨g, j, none⟩ (.slice (some ⟨wr.heap.size, 0, none⟩) (L j) (L j))) (.bool false) (L j) 4
      rw [hsz] at h1
      rw [hb]
      exact h1.congr fun c hc => by rw [hM c hc]
    · exact ((h.row j (by omega)).setOther (by show rb j ≠ g; exact hg j (by omega)) _).alloc _
theorem MkM.done {wr : World} {g n : Nat} {rb L : Nat → Nat} {M : Nat → Nat → Bool} (h : MkM wr g n n rb L M) (hi : ∀ i j, i < n → j < n → rb i = rb j → i = j) (hg : ∀ j, j < n → rb j ≠ g) : MatIs wr g n rb L M :=
  ⟨h.top.lt, fun j hj => by have := h.top.cell hj; simpa [hj] using this, h.row, hi, hg⟩
theorem cell_new {wr : World} {p : Addr} {v u : Value} {cs : Array Value} {T : TypeId} {i : Nat} (h : cs[i]? = some u) : ((wr.setCell p v).alloc (.cells cs T)).drew.cell? ⟨wr.heap.size, i, none⟩ = some u := by
  have e : (wr.setCell p v).heap.size = wr.heap.size := by simp [World.setCell]
  have h1 := cell_of_row ((wr.setCell p v).alloc (.cells cs T)) (wr.setCell p v).heap.size i cs T (0, 0) (heap_alloc_new _ _)
  rw [e, h] at h1
  exact h1
/-- What a drawn store to a table leaves of what it has read. -/
theorem Kp.three {lo hi : Nat} {wr : World} {p q r : Addr} {v x y u : Value} {cs : Array Value} {T : TypeId} {i : Nat} (h1 : lo ≤ p.block) (h2 : p.block < hi) (hq : q.block < wr.heap.size) (hq2 : hi ≤ q.block) (hx : wr.cell? q = some x) (hr : r.block < wr.heap.size) (hr2 : r.block < lo) (hy : wr.cell? r = some y) (hu : cs[i]? = some u) :
    ((wr.setCell p v).alloc (.cells cs T)).drew.cell? q = some x ∧ ((wr.setCell p v).alloc (.cells cs T)).drew.cell? r = some y ∧ ((wr.setCell p v).alloc (.cells cs T)).drew.cell? ⟨wr.heap.size, i, none⟩ = some u := by
  have K : Kp lo hi wr ((wr.setCell p v).alloc (.cells cs T)).drew := ((Kp.set (Kp.refl lo hi wr) h1 h2 v).alloc _).drew
  exact ⟨(K.cell hq (.inr hq2)).trans hx, (K.cell hr (.inl hr2)).trans hy, cell_new hu⟩
theorem undB : Try.prog.underlying 87 = some (.slice 4) := by kernel_rfl
theorem undBs : Try.prog.underlying 167 = some (.slice 87) := by kernel_rfl
end

section
open Go Go.RowKit
set_option linter.unusedVariables false

def Fac (w : World) (bad : Nat → Prop) (A : Option Addr) (l : List (Int × Int)) : Prop :=
  l.length ≤ 140737488355328 ∧ (0 < l.length → ∃ b off, A = some ⟨b, off, none⟩ ∧ b < w.heap.size ∧ ¬ bad b ∧ ∀ k, k < l.length → w.cell? ⟨b, off + k * 2, none⟩ = some (.int .i64 (fv l k)) ∧ w.cell? ⟨b, off + k * 2 + 1, none⟩ = some (.int .i64 (fx l k)))
/-- Effects, their conditions too. -/
def Efs (w : World) (bad : Nat → Prop) (A : Option Addr) (l : List Eff) : Prop :=
  l.length ≤ 140737488355328 ∧ (0 < l.length → ∃ b off, A = some ⟨b, off, none⟩ ∧ b < w.heap.size ∧ ¬ bad b ∧ ∀ k, k < l.length → ∃ S c,
    w.cell? ⟨b, off + k * 3, none⟩ = some (.slice S (eff l k).whn.length c) ∧ Fac w bad S (eff l k).whn ∧
    w.cell? ⟨b, off + k * 3 + 1, none⟩ = some (.int .i64 (eff l k).var) ∧ w.cell? ⟨b, off + k * 3 + 2, none⟩ = some (.int .i64 (eff l k).val))
/-- The cells of a row of effects, of operators. -/
def EfIs (w : World) (bad : Nat → Prop) (xs : List Value) (l : List Eff) : Prop :=
  xs.length = l.length * 3 ∧ ∀ k, k < l.length → ∃ S c, xs[k * 3]? = some (.slice S (eff l k).whn.length c) ∧ Fac w bad S (eff l k).whn ∧ xs[k * 3 + 1]? = some (.int .i64 (eff l k).var) ∧ xs[k * 3 + 2]? = some (.int .i64 (eff l k).val)
def OpIs (w : World) (bad : Nat → Prop) (xs : List Value) (l : List Opr) : Prop :=
  xs.length = l.length * 4 ∧ ∀ k, k < l.length → ∃ S c T d, xs[k * 4]? = some (.string (opr l k).name) ∧ (opr l k).name.size ≤ 140737488355328 ∧ xs[k * 4 + 1]? = some (.int .i64 (opr l k).cost) ∧
    xs[k * 4 + 2]? = some (.slice S (opr l k).pre.length c) ∧ Fac w bad S (opr l k).pre ∧ xs[k * 4 + 3]? = some (.slice T (opr l k).effs.length d) ∧ Efs w bad T (opr l k).effs

section
variable {w w' : World} {bad bad' : Nat → Prop} {A : Option Addr}
/-- Blocks that lie at good places are kept; what is bad then was bad. -/
structure Moves (w w' : World) (bad bad' : Nat → Prop) : Prop where
  size : w.heap.size ≤ w'.heap.size
  block : ∀ b, b < w.heap.size → ¬ bad b → w'.heap[b]? = w.heap[b]?
  bad : ∀ b, b < w.heap.size → bad' b → bad b
theorem Moves.cell (h : Moves w w' bad bad') {p : Addr} (hp : p.block < w.heap.size) (hb : ¬ bad p.block) : w'.cell? p = w.cell? p := World.cell?_of_block (w := w) (h.block _ hp hb)
theorem Moves.up (hb : Below w.heap.size w w') : Moves w w' bad bad := ⟨hb.size, fun b h _ => hb.block b h, fun _ _ h => h⟩
theorem Moves.grown {row : Option Nat} (hg : w.grownBy w' row) (hr : ∀ b, row = some b → bad b) (hb : ∀ b, b < w.heap.size → bad' b → bad b) : Moves w w' bad bad' :=
  ⟨hg.size, fun b h hn => hg.block b h fun e => hn (hr b e.symm), hb⟩
theorem Moves.set {p : Addr} (u : Value) (hp : bad p.block) : Moves w (w.setCell p u) bad bad :=
  ⟨by simp [World.setCell], fun b h hn => Below.heap_setCell _ _ _ _ (fun e => hn (by rw [e]; exact hp)), fun _ _ h => h⟩
theorem Moves.mono (hb : ∀ b, b < w.heap.size → bad' b → bad b) : Moves w w bad bad' := ⟨Nat.le_refl _, fun _ _ _ => rfl, hb⟩
theorem Moves.trans {w'' : World} {bad'' : Nat → Prop} (h : Moves w w' bad bad') (k : Moves w' w'' bad' bad'') : Moves w w'' bad bad'' :=
  ⟨Nat.le_trans h.size k.size, fun b hb hn => (k.block b (Nat.lt_of_lt_of_le hb h.size) fun h2 => hn (h.bad b hb h2)).trans (h.block b hb hn), fun b hb hn => h.bad b hb (k.bad b (Nat.lt_of_lt_of_le hb h.size) hn)⟩
theorem Fac.move {l : List (Int × Int)} (h : Fac w bad A l) (m : Moves w w' bad bad') : Fac w' bad' A l :=
  ⟨h.1, fun hn => by
    obtain ⟨b, off, e, hb, hx, hc⟩ := h.2 hn
    exact ⟨b, off, e, Nat.lt_of_lt_of_le hb m.size, fun h2 => hx (m.bad b hb h2), fun k hk => ⟨(m.cell (p := ⟨b, _, none⟩) hb hx).trans (hc k hk).1, (m.cell (p := ⟨b, _, none⟩) hb hx).trans (hc k hk).2⟩⟩⟩
theorem Efs.move {l : List Eff} (h : Efs w bad A l) (m : Moves w w' bad bad') : Efs w' bad' A l :=
  ⟨h.1, fun hn => by
    obtain ⟨b, off, e, hb, hx, hc⟩ := h.2 hn
    refine ⟨b, off, e, Nat.lt_of_lt_of_le hb m.size, fun h2 => hx (m.bad b hb h2), fun k hk => ?_⟩
    obtain ⟨S, c, h1, h2, h3, h4⟩ := hc k hk
    exact ⟨S, c, (m.cell (p := ⟨b, _, none⟩) hb hx).trans h1, h2.move m, (m.cell (p := ⟨b, _, none⟩) hb hx).trans h3, (m.cell (p := ⟨b, _, none⟩) hb hx).trans h4⟩⟩
theorem EfIs.move {xs : List Value} {l : List Eff} (h : EfIs w bad xs l) (m : Moves w w' bad bad') : EfIs w' bad' xs l :=
  ⟨h.1, fun k hk => by
    obtain ⟨S, c, h1, h2, h3, h4⟩ := h.2 k hk
    exact ⟨S, c, h1, h2.move m, h3, h4⟩⟩
theorem OpIs.move {xs : List Value} {l : List Opr} (h : OpIs w bad xs l) (m : Moves w w' bad bad') : OpIs w' bad' xs l :=
  ⟨h.1, fun k hk => by
    obtain ⟨S, c, T, d, h1, h2, h3, h4, h5, h6, h7⟩ := h.2 k hk
    exact ⟨S, c, T, d, h1, h2, h3, h4, h5.move m, h6, h7.move m⟩⟩
theorem Fac.at_ {l : List (Int × Int)} (h : Fac w bad A l) : FactsAt w w.heap.size A l :=
  ⟨h.1, fun hn => by
    obtain ⟨b, off, e, hb, hx, hc⟩ := h.2 hn
    exact ⟨b, off, e, hb, hc⟩⟩
theorem Efs.at_ {l : List Eff} (h : Efs w bad A l) : EffsAt w w.heap.size A l :=
  ⟨h.1, fun hn => by
    obtain ⟨b, off, e, hb, hx, hc⟩ := h.2 hn
    refine ⟨b, off, e, hb, fun k hk => ?_⟩
    obtain ⟨S, c, h1, h2, h3, h4⟩ := hc k hk
    exact ⟨S, c, h1, h2.at_, h3, h4⟩⟩
theorem EfIs.nil (w : World) (bad : Nat → Prop) : EfIs w bad [] [] := ⟨rfl, fun k hk => absurd hk (by simp)⟩
theorem OpIs.nil (w : World) (bad : Nat → Prop) : OpIs w bad [] [] := ⟨rfl, fun k hk => absurd hk (by simp)⟩
theorem eff_app {l m : List Eff} {k : Nat} (h : k < l.length) : eff (l ++ m) k = eff l k := by unfold eff; simp [List.getD, List.getElem?_append_left h]
theorem eff_last {l : List Eff} {e : Eff} : eff (l ++ [e]) l.length = e := by unfold eff; simp [List.getD]
theorem opr_app {l m : List Opr} {k : Nat} (h : k < l.length) : opr (l ++ m) k = opr l k := by unfold opr; simp [List.getD, List.getElem?_append_left h]
theorem opr_last {l : List Opr} {e : Opr} : opr (l ++ [e]) l.length = e := by unfold opr; simp [List.getD]
theorem get_app {xs ys : List Value} {i : Nat} {u : Value} (h : xs[i]? = some u) : (xs ++ ys)[i]? = some u := by
  rw [List.getElem?_append_left (List.getElem?_eq_some_iff.1 h).1]; exact h
theorem EfIs.push {xs : List Value} {l : List Eff} (h : EfIs w bad xs l) {S : Option Addr} {c : Nat} {e : Eff} (hf : Fac w bad S e.whn) :
    EfIs w bad (xs ++ [.slice S e.whn.length c, .int .i64 e.var, .int .i64 e.val]) (l ++ [e]) := by
  refine ⟨by rw [List.length_append, List.length_append, h.1]; simp; omega, fun k hk => ?_⟩
  rw [List.length_append] at hk
  by_cases hlt : k < l.length
  · obtain ⟨S', c', h1, h2, h3, h4⟩ := h.2 k hlt
    rw [eff_app hlt]
    exact ⟨S', c', get_app h1, h2, get_app h3, get_app h4⟩
  · have : k = l.length := by simp at hk; omega
    subst this
    rw [eff_last]
    refine ⟨S, c, ?_, hf, ?_, ?_⟩
    · rw [← h.1, List.getElem?_append_right (Nat.le_refl _), Nat.sub_self]; rfl
    · rw [← h.1, List.getElem?_append_right (by omega), Nat.add_sub_cancel_left]; rfl
    · rw [← h.1, List.getElem?_append_right (by omega), Nat.add_sub_cancel_left]; rfl
theorem OpIs.push {xs : List Value} {l : List Opr} (h : OpIs w bad xs l) {S T : Option Addr} {c d : Nat} {o : Opr} (hs : o.name.size ≤ 140737488355328) (hf : Fac w bad S o.pre) (he : Efs w bad T o.effs) :
    OpIs w bad (xs ++ [.string o.name, .int .i64 o.cost, .slice S o.pre.length c, .slice T o.effs.length d]) (l ++ [o]) := by
  refine ⟨by rw [List.length_append, List.length_append, h.1]; simp; omega, fun k hk => ?_⟩
  rw [List.length_append] at hk
  by_cases hlt : k < l.length
  · obtain ⟨S', c', T', d', h1, h2, h3, h4, h5, h6, h7⟩ := h.2 k hlt
    rw [opr_app hlt]
    exact ⟨S', c', T', d', get_app h1, h2, get_app h3, get_app h4, h5, get_app h6, h7⟩
  · have : k = l.length := by simp at hk; omega
    subst this
    rw [opr_last]
    refine ⟨S, c, T, d, ?_, hs, ?_, ?_, hf, ?_, he⟩
    · rw [← h.1, List.getElem?_append_right (Nat.le_refl _), Nat.sub_self]; rfl
    · rw [← h.1, List.getElem?_append_right (by omega), Nat.add_sub_cancel_left]; rfl
    · rw [← h.1, List.getElem?_append_right (by omega), Nat.add_sub_cancel_left]; rfl
    · rw [← h.1, List.getElem?_append_right (by omega), Nat.add_sub_cancel_left]; rfl
theorem own_cell {B s n : Nat} {e : TypeId} {g cap : Nat} {xs : List Value} (h : w.ownsRow B e s (.slice (some ⟨g, 0, none⟩) n cap) n xs) {i : Nat} {u : Value} (hi : xs[i]? = some u) : w.cell? ⟨g, i, none⟩ = some u := by
  rcases h.2 with ⟨h0, _⟩ | ⟨b, cap', cur, h1, hb, hg, hnc, hcm, hcs, htk⟩
  · cases h0
  · injection h1 with h1 _ _
    injection h1 with h1
    injection h1 with h1 _ _
    subst h1
    rw [cell_of_row w g i cur e (0, 0) hg]
    rw [← htk, List.getElem?_take] at hi
    split at hi
    · simpa using hi
    · cases hi
theorem own_view {B s n : Nat} {e : TypeId} {v : Value} {xs : List Value} (h : w.ownsRow B e s v n xs) : (v = .slice none 0 0 ∧ n = 0) ∨ ∃ g cap, v = .slice (some ⟨g, 0, none⟩) n cap ∧ B ≤ g ∧ g < w.heap.size := by
  rcases h.2 with ⟨rfl, h0⟩ | ⟨b, cap, cur, rfl, hb, hg, _⟩
  · exact .inl ⟨rfl, h0⟩
  · exact .inr ⟨b, cap, rfl, hb, (Array.getElem?_eq_some_iff.1 hg).1⟩
/-- A row of the call's own, seen as effects: also its block is at a good place. -/
theorem EfIs.efs {B : Nat} {v : Value} {xs : List Value} {l : List Eff} {e : TypeId} (h : EfIs w bad xs l) (ho : w.ownsRow B e 3 v l.length xs) (hl : l.length ≤ 140737488355328) (hb : ∀ g, B ≤ g → g < w.heap.size → ¬ bad g) :
    ∃ A c, v = .slice A l.length c ∧ (A = none → c = 0) ∧ Efs w bad A l := by
  rcases own_view ho with ⟨rfl, h0⟩ | ⟨g, cap, rfl, hg1, hg2⟩
  · exact ⟨none, 0, by rw [h0], fun _ => rfl, hl, fun hn => absurd hn (by omega)⟩
  · refine ⟨some ⟨g, 0, none⟩, cap, rfl, (fun e => nomatch e), hl, fun _ => ⟨g, 0, rfl, hg2, hb g hg1 hg2, fun k hk => ?_⟩⟩
    obtain ⟨S, c, h1, h2, h3, h4⟩ := h.2 k hk
    refine ⟨S, c, ?_, h2, ?_, ?_⟩
    · have := own_cell ho h1; simpa using this
    · have := own_cell ho h3; simpa using this
    · have := own_cell ho h4; simpa using this
theorem OpIs.ops {B : Nat} {v : Value} {xs : List Value} {l : List Opr} {e : TypeId} (h : OpIs w bad xs l) (ho : w.ownsRow B e 4 v l.length xs) (hl : l.length ≤ 140737488355328) :
    ∃ A c, v = .slice A l.length c ∧ (A = none → c = 0) ∧ OpsAt w w.heap.size A l := by
  rcases own_view ho with ⟨rfl, h0⟩ | ⟨g, cap, rfl, hg1, hg2⟩
  · exact ⟨none, 0, by rw [h0], fun _ => rfl, hl, fun hn => absurd hn (by omega)⟩
  · refine ⟨some ⟨g, 0, none⟩, cap, rfl, (fun e => nomatch e), hl, fun _ => ⟨g, 0, rfl, hg2, fun k hk => ?_⟩⟩
    obtain ⟨S, c, T, d, h1, h2, h3, h4, h5, h6, h7⟩ := h.2 k hk
    refine ⟨S, c, T, d, ?_, h2, ?_, ?_, h5.at_, ?_, h7.at_⟩
    · have := own_cell ho h1; simpa using this
    · have := own_cell ho h3; simpa using this
    · have := own_cell ho h4; simpa using this
    · have := own_cell ho h6; simpa using this
/-- A row of facts of the call's own. -/
def fcl (l : List (Int × Int)) : List Value := l.flatMap fun f => [.int .i64 f.1, .int .i64 f.2]
theorem fcl_get : ∀ (l : List (Int × Int)) (k : Nat), k < l.length → (fcl l)[k * 2]? = some (.int .i64 (fv l k)) ∧ (fcl l)[k * 2 + 1]? = some (.int .i64 (fx l k))
  | f :: l, 0, _ => ⟨rfl, rfl⟩
  | f :: l, k + 1, h => by
    obtain ⟨h1, h2⟩ := fcl_get l k (by simp at h; omega)
    have e : fcl (f :: l) = .int .i64 f.1 :: .int .i64 f.2 :: fcl l := rfl
    rw [e, show (k + 1) * 2 = k * 2 + 1 + 1 by omega]
    exact ⟨h1, h2⟩
theorem fcl_app (a b : List (Int × Int)) : fcl (a ++ b) = fcl a ++ fcl b := by unfold fcl; rw [List.flatMap_append]
theorem own_fac {B n : Nat} {v : Value} {l : List (Int × Int)} {e : TypeId} (ho : w.ownsRow B e 2 v n (fcl l)) (hn : n = l.length) (hl : l.length ≤ 140737488355328) (hb : ∀ g, B ≤ g → g < w.heap.size → ¬ bad g) :
    ∃ A c, v = .slice A l.length c ∧ (A = none → c = 0) ∧ Fac w bad A l := by
  subst hn
  rcases own_view ho with ⟨rfl, h0⟩ | ⟨g, cap, rfl, hg1, hg2⟩
  · exact ⟨none, 0, by rw [h0], fun _ => rfl, hl, fun hn => absurd hn (by omega)⟩
  · refine ⟨some ⟨g, 0, none⟩, cap, rfl, (fun e => nomatch e), hl, fun _ => ⟨g, 0, rfl, hg2, hb g hg1 hg2, fun k hk => ?_⟩⟩
    have h1 := own_cell ho (fcl_get l k hk).1
    have h2 := own_cell ho (fcl_get l k hk).2
    exact ⟨by simpa using h1, by simpa using h2⟩
end
end

end Go.Proofs.Ytaampjhdgeoicaa

/- Texts laid together: TaskD, TaskB, TaskC, RankP, Kp, Fac. -/
import Derived.Test.YtaampjhdgeoicaaGreatMfC
import Derived.Test.YtaampjhdgeoicaaGreatMfA
import Derived.LoopTactic
import Derived.Deep.LoopGhost
import Derived.Deep.DeepCutAuto
namespace Go.Proofs.YtaampjhdgeoicaaGreat
set_option linter.unusedSimpArgs false
set_option linter.unusedVariables false
section
open Go.RowKit

structure Eff where
 whn : List (Int × Int)
 var : Int
 val : Int
structure Opr where
 name : ByteArray
 cost : Int
 pre : List (Int × Int)
 effs : List Eff
structure Tsk where
 vars : List Int
 init : List Int
 goal : List (Int × Int)
 ops : List Opr

def Eff.none : Eff := ⟨[], 0, 0⟩
def Opr.none : Opr := ⟨ByteArray.empty, 0, [], []⟩
def eff (l : List Eff) (k : Nat) : Eff := l.getD k Eff.none
def opr (l : List Opr) (k : Nat) : Opr := l.getD k Opr.none
/-- Effects: three cells each. -/
def EffsAt (w : World) (B : Nat) (A : Option Addr) (l : List Eff) : Prop :=
 l.length ≤ 140737488355328 ∧ (0 < l.length → ∃ b off, A = some ⟨b, off, none⟩ ∧ b < B ∧ ∀ k, k < l.length → ∃ S c,
  w.cell? ⟨b, off + k * 3, none⟩ = some (.slice S (eff l k).whn.length c) ∧ FactsAt w B S (eff l k).whn ∧
  w.cell? ⟨b, off + k * 3 + 1, none⟩ = some (.int .i64 (eff l k).var) ∧ w.cell? ⟨b, off + k * 3 + 2, none⟩ = some (.int .i64 (eff l k).val))
/-- Operators: four cells each. -/
def OpsAt (w : World) (B : Nat) (A : Option Addr) (l : List Opr) : Prop :=
 l.length ≤ 140737488355328 ∧ (0 < l.length → ∃ b off, A = some ⟨b, off, none⟩ ∧ b < B ∧ ∀ k, k < l.length → ∃ S c T d,
  w.cell? ⟨b, off + k * 4, none⟩ = some (.string (opr l k).name) ∧ (opr l k).name.size ≤ 140737488355328 ∧ w.cell? ⟨b, off + k * 4 + 1, none⟩ = some (.int .i64 (opr l k).cost) ∧
  w.cell? ⟨b, off + k * 4 + 2, none⟩ = some (.slice S (opr l k).pre.length c) ∧ FactsAt w B S (opr l k).pre ∧
  w.cell? ⟨b, off + k * 4 + 3, none⟩ = some (.slice T (opr l k).effs.length d) ∧ EffsAt w B T (opr l k).effs)
/-- Where a task's parts lie: four addresses, four capacities. -/
structure Lies where
 (av ai ag ao : Option Addr) (cv ci cg co : Nat)
def TaskV (t : Tsk) (p : Lies) : Value := .agg #[.slice p.av t.vars.length p.cv, .slice p.ai t.init.length p.ci, .slice p.ag t.goal.length p.cg, .slice p.ao t.ops.length p.co]
structure TaskAt (w : World) (B : Nat) (t : Tsk) (p : Lies) : Prop where
 vars : IntsAt w B p.av t.vars
 init : IntsAt w B p.ai t.init
 goal : FactsAt w B p.ag t.goal
 ops : OpsAt w B p.ao t.ops

section
variable {w w' : World} {B B' : Nat} {A : Option Addr}
theorem EffsAt.len {l : List Eff} (h : EffsAt w B A l) : l.length ≤ 140737488355328 := h.1
theorem EffsAt.at_ {l : List Eff} (h : EffsAt w B A l) {k : Nat} (hk : k < l.length) : ∃ b off, A = some ⟨b, off, none⟩ ∧ b < B ∧ ∃ S c,
  w.cell? ⟨b, off + k * 3, none⟩ = some (.slice S (eff l k).whn.length c) ∧ FactsAt w B S (eff l k).whn ∧
  w.cell? ⟨b, off + k * 3 + 1, none⟩ = some (.int .i64 (eff l k).var) ∧ w.cell? ⟨b, off + k * 3 + 2, none⟩ = some (.int .i64 (eff l k).val) := by
 obtain ⟨b, off, e, hb, hc⟩ := h.2 (by omega)
 exact ⟨b, off, e, hb, hc k hk⟩
theorem EffsAt.keep {l : List Eff} (h : EffsAt w B A l) (hk : ∀ p : Addr, p.block < B → w'.cell? p = w.cell? p) (hB : B ≤ B') : EffsAt w' B' A l :=
 ⟨h.1, fun hn => by
  obtain ⟨b, off, e, hb, hc⟩ := h.2 hn
  refine ⟨b, off, e, by omega, fun k hlt => ?_⟩
  obtain ⟨S, c, h1, h2, h3, h4⟩ := hc k hlt
  exact ⟨S, c, (hk _ hb).trans h1, h2.keep hk hB, (hk _ hb).trans h3, (hk _ hb).trans h4⟩⟩
theorem OpsAt.len {l : List Opr} (h : OpsAt w B A l) : l.length ≤ 140737488355328 := h.1
theorem OpsAt.at_ {l : List Opr} (h : OpsAt w B A l) {k : Nat} (hk : k < l.length) : ∃ b off, A = some ⟨b, off, none⟩ ∧ b < B ∧ ∃ S c T d,
  w.cell? ⟨b, off + k * 4, none⟩ = some (.string (opr l k).name) ∧ (opr l k).name.size ≤ 140737488355328 ∧ w.cell? ⟨b, off + k * 4 + 1, none⟩ = some (.int .i64 (opr l k).cost) ∧
  w.cell? ⟨b, off + k * 4 + 2, none⟩ = some (.slice S (opr l k).pre.length c) ∧ FactsAt w B S (opr l k).pre ∧
  w.cell? ⟨b, off + k * 4 + 3, none⟩ = some (.slice T (opr l k).effs.length d) ∧ EffsAt w B T (opr l k).effs := by
 obtain ⟨b, off, e, hb, hc⟩ := h.2 (by omega)
 exact ⟨b, off, e, hb, hc k hk⟩
theorem OpsAt.keep {l : List Opr} (h : OpsAt w B A l) (hk : ∀ p : Addr, p.block < B → w'.cell? p = w.cell? p) (hB : B ≤ B') : OpsAt w' B' A l :=
 ⟨h.1, fun hn => by
  obtain ⟨b, off, e, hb, hc⟩ := h.2 hn
  refine ⟨b, off, e, by omega, fun k hlt => ?_⟩
  obtain ⟨S, c, T, d, h1, h2, h3, h4, h5, h6, h7⟩ := hc k hlt
  exact ⟨S, c, T, d, (hk _ hb).trans h1, h2, (hk _ hb).trans h3, (hk _ hb).trans h4, h5.keep hk hB, (hk _ hb).trans h6, h7.keep hk hB⟩⟩
theorem TaskAt.keep {t : Tsk} {p : Lies} (h : TaskAt w B t p) (hk : ∀ p : Addr, p.block < B → w'.cell? p = w.cell? p) (hB : B ≤ B') : TaskAt w' B' t p :=
 ⟨h.vars.keep hk hB, h.init.keep hk hB, h.goal.keep hk hB, h.ops.keep hk hB⟩
/-- What lay in a world below its size lies in each later one, below that one's size. -/
theorem TaskAt.up {t : Tsk} {p : Lies} (h : TaskAt w w.heap.size t p) (hb : Below w.heap.size w w') : TaskAt w' w'.heap.size t p := h.keep (fun _ hp => hb.cell hp) hb.size
end

/-- A task's value lies in the box b. -/
structure Boxed (w : World) (b : Nat) (t : Tsk) (p : Lies) : Prop where
 lt : b < w.heap.size
 c0 : w.cell? ⟨b, 0, none⟩ = some (.slice p.av t.vars.length p.cv)
 c1 : w.cell? ⟨b, 1, none⟩ = some (.slice p.ai t.init.length p.ci)
 c2 : w.cell? ⟨b, 2, none⟩ = some (.slice p.ag t.goal.length p.cg)
 c3 : w.cell? ⟨b, 3, none⟩ = some (.slice p.ao t.ops.length p.co)
theorem Boxed.up {w w' : World} {b : Nat} {t : Tsk} {p : Lies} (h : Boxed w b t p) (hb : Below w.heap.size w w') : Boxed w' b t p :=
 ⟨Nat.lt_of_lt_of_le h.lt hb.size, (hb.cell (p := ⟨b, 0, none⟩) h.lt).trans h.c0, (hb.cell (p := ⟨b, 1, none⟩) h.lt).trans h.c1, (hb.cell (p := ⟨b, 2, none⟩) h.lt).trans h.c2, (hb.cell (p := ⟨b, 3, none⟩) h.lt).trans h.c3⟩

/-- The name's byte k. -/
def byt (s : ByteArray) (k : Nat) : UInt8 := if h : k < s.size then s[k] else 0
theorem byt_eq {s : ByteArray} {k : Nat} (h : k < s.size) : byt s k = s[k] := by unfold byt; rw [dif_pos h]
/-- A byte that no name has. -/
def bad (s : ByteArray) (k : Nat) : Bool := decide (((byt s k).toNat : Int) < 32) || decide (126 < ((byt s k).toNat : Int))
def lgO (o : Opr) : Bool := (decide ((64 : Int) < o.pre.length) || decide ((64 : Int) < o.effs.length)) || anyB o.effs.length fun k => decide ((64 : Int) < (eff o.effs k).whn.length)
def lgT (t : Tsk) : Bool := ((decide ((64 : Int) < t.vars.length) || decide ((4096 : Int) < t.ops.length)) || decide ((64 : Int) < t.goal.length)) || anyB t.ops.length fun k => lgO (opr t.ops k)
def outT (t : Tsk) : Bool := (anyB t.vars.length fun k => decide (nth t.vars k < 1) || decide (64 < nth t.vars k)) || anyB t.ops.length fun k => decide ((opr t.ops k).cost < 0) || decide (1048576 < (opr t.ops k).cost)
def malE (vars : List Int) (e : Eff) : Bool := !faB vars e.whn || !faB vars [(e.var, e.val)]
def malO (vars : List Int) (o : Opr) : Bool := !faB vars o.pre || anyB o.effs.length fun k => malE vars (eff o.effs k)
def malT (t : Tsk) : Bool := (!stB t.vars t.init || !faB t.vars t.goal) || anyB t.ops.length fun k => malO t.vars (opr t.ops k)
def misO (s : ByteArray) : Bool := decide ((256 : Int) < s.size) || anyB s.size (bad s)
def misT (t : Tsk) : Bool := anyB t.ops.length fun k => misO (opr t.ops k).name
/-- The number of the error. -/
def chkC (t : Tsk) : Int := if lgT t then 5 else if outT t then 1 else if malT t then 2 else if misT t then 8 else 0

section
variable {w w' : World} {B : Nat} {A : Option Addr}
theorem EffsAt.at2 {l : List Eff} (h : EffsAt w B A l) (hb : Below B w w') {k : Nat} (hk : k < l.length) : ∃ b off S c, A = some ⟨b, off, none⟩ ∧ b < B ∧
  w'.cell? ⟨b, off + k * 3, none⟩ = some (.slice S (eff l k).whn.length c) ∧ FactsAt w B S (eff l k).whn ∧
  w'.cell? ⟨b, off + k * 3 + 1, none⟩ = some (.int .i64 (eff l k).var) ∧ w'.cell? ⟨b, off + k * 3 + 2, none⟩ = some (.int .i64 (eff l k).val) := by
 obtain ⟨b, off, e, hlt, S, c, h1, h2, h3, h4⟩ := h.at_ hk
 exact ⟨b, off, S, c, e, hlt, (hb.cell hlt).trans h1, h2, (hb.cell hlt).trans h3, (hb.cell hlt).trans h4⟩
theorem OpsAt.at2 {l : List Opr} (h : OpsAt w B A l) (hb : Below B w w') {k : Nat} (hk : k < l.length) : ∃ b off S c T d, A = some ⟨b, off, none⟩ ∧ b < B ∧
  w'.cell? ⟨b, off + k * 4, none⟩ = some (.string (opr l k).name) ∧ (opr l k).name.size ≤ 140737488355328 ∧ w'.cell? ⟨b, off + k * 4 + 1, none⟩ = some (.int .i64 (opr l k).cost) ∧
  w'.cell? ⟨b, off + k * 4 + 2, none⟩ = some (.slice S (opr l k).pre.length c) ∧ FactsAt w B S (opr l k).pre ∧
  w'.cell? ⟨b, off + k * 4 + 3, none⟩ = some (.slice T (opr l k).effs.length d) ∧ EffsAt w B T (opr l k).effs := by
 obtain ⟨b, off, e, hlt, S, c, T, d, h1, h2, h3, h4, h5, h6, h7⟩ := h.at_ hk
 exact ⟨b, off, S, c, T, d, e, hlt, (hb.cell hlt).trans h1, h2, (hb.cell hlt).trans h3, (hb.cell hlt).trans h4, h5, (hb.cell hlt).trans h6, h7⟩
end
end

section
open Go.RowKit
set_option linter.unusedVariables false

end

section
open Go.RowKit
set_option linter.unusedVariables false

set_option maxHeartbeats 1000000 in
theorem named_any (s : ByteArray) (w : World) (hs : s.size ≤ 140737488355328) :
    Calls Tryz.prog 63 #[.string s] w fun e w' => e = .returned (.bool (!misO s)) ∧ Below w.heap.size w w' := by
  go_enter Tryz.func63, Tryz.ntmps63
  go_wp2
  go_loopw [6] (fun i wr => ∃ (k : Nat), k ≤ s.size ∧ i = .int .i64 k ∧ anyB k (bad s) = false ∧ Below w.heap.size w wr) (fun i _ => s.size - (intOf i).toNat)
  case atStart => exact ⟨0, by omega, rfl, rfl, by exact bel⟩
  case round =>
    obtain ⟨k, hk, rfl, hB, hbel⟩ := hrel
    have HB := Lib.hid hB
    clear hB
    by_cases hlt : k < s.size
    · cases e1 : decide ((s[k].toNat : Int) < 32) <;> cases e2 : decide (126 < (s[k].toNat : Int)) <;> go_wp2
      all_goals first
        | (go_roundw
           case rel => exact ⟨k + 1, by omega, by go_num, (by rw [anyB_succ, HB.out]; unfold bad; rw [byt_eq hlt, e1, e2]; rfl), by exact bel⟩
           case measure => simp [intOf]; omega)
        | (go_ret
           refine ⟨bool_ret ?_, by exact bel⟩
           have hf : anyB s.size (bad s) = true := anyB_true.2 ⟨k, hlt, by unfold bad; rw [byt_eq hlt, e1, e2]; rfl⟩
           unfold misO
           rw [hf, Bool.or_true]; rfl)
    · cases e1 : decide ((s.size : Int) ≤ 256) <;>
        (go_wp2
         go_ret
         refine ⟨bool_ret ?_, by exact bel⟩
         unfold misO
         rw [show s.size = k by omega, HB.out, Bool.or_false]
         simp at e1 ⊢
         omega)

end

section
set_option linter.unusedVariables false

/-- The product of the first k numbers; at most one more than 65536. -/
def pr (l : List Int) : Nat → Int
 | 0 => 1
 | k + 1 => pr l k * nth l k
theorem pr_pos {l : List Int} {n : Nat} (h : ∀ k, k < n → 1 ≤ nth l k) : 1 ≤ pr l n := by
 induction n with
 | zero => exact Int.le_refl _
 | succ n ih =>
  have h1 := ih fun k hk => h k (by omega)
  have h2 := h n (by omega)
  unfold pr
  have := Int.mul_le_mul h1 h2 (by omega) (by omega)
  omega
theorem pr_mono {l : List Int} {n : Nat} (h : ∀ k, k < n → 1 ≤ nth l k) {j : Nat} (hj : j ≤ n) : pr l j ≤ pr l n := by
 induction n with
 | zero => rw [show j = 0 by omega]; exact Int.le_refl _
 | succ n ih =>
  rcases Nat.lt_or_ge n j with h1 | h1
  ·rw [show j = n + 1 by omega]; exact Int.le_refl _
  ·have h2 := ih (fun k hk => h k (by omega)) h1
   have h3 := pr_pos (l := l) (n := n) fun k hk => h k (by omega)
   have h4 := h n (by omega)
   have h5 : pr l (n + 1) = pr l n * nth l n := rfl
   have h6 := Int.mul_le_mul_of_nonneg_left h4 (show 0 ≤ pr l n by omega)
   omega
/-- The rank: mixed radix. -/
def rk (vars s : List Int) : Nat → Int
 | 0 => 0
 | k + 1 => rk vars s k * nth vars k + nth s k
/-- What is left of n behind d digits; the digits. -/
def nd (vars : List Int) (n : Int) : Nat → Int
 | 0 => n
 | d + 1 => nd vars n d / nth vars (vars.length - 1 - d)
end

section
open Go Go.RowKit
set_option linter.unusedVariables false

structure Kp (lo hi : Nat) (w w' : World) : Prop where
 os : w'.os = w.os
 tape : w'.tape = w.tape
 output : w'.output = w.output
 size : w.heap.size ≤ w'.heap.size
 block : ∀ k, k < w.heap.size → (k < lo ∨ hi ≤ k) → w'.heap[k]? = w.heap[k]?
section
variable {lo hi : Nat} {w w' w'' : World}
theorem Kp.refl (lo hi : Nat) (w : World) : Kp lo hi w w := ⟨rfl, rfl, rfl, Nat.le_refl _, fun _ _ _ => rfl⟩
theorem Kp.trans (h : Kp lo hi w w') (k : Kp lo hi w' w'') : Kp lo hi w w'' :=
 ⟨k.os.trans h.os, k.tape.trans h.tape, k.output.trans h.output, Nat.le_trans h.size k.size, fun i hi ho => (k.block i (Nat.lt_of_lt_of_le hi h.size) ho).trans (h.block i hi ho)⟩
theorem Kp.of_below (h : Below w.heap.size w w') : Kp lo hi w w' := ⟨h.os, h.tape, h.output, h.size, fun k hk _ => h.block k hk⟩
theorem Kp.up (h : Kp lo hi w w') (hb : Below w'.heap.size w' w'') : Kp lo hi w w'' := h.trans (Kp.of_below hb)
theorem Kp.alloc (h : Kp lo hi w w') (o : Obj) : Kp lo hi w (w'.alloc o) := h.up ((Below.refl _ _).alloc (Nat.le_refl _) _)
theorem Kp.drew (h : Kp lo hi w w') : Kp lo hi w w'.drew := h.up (Below.refl _ _).drew
theorem Kp.set (h : Kp lo hi w w') {p : Addr} (h1 : lo ≤ p.block) (h2 : p.block < hi) (u : Value) : Kp lo hi w (w'.setCell p u) :=
 h.trans ⟨rfl, rfl, rfl, by simp [World.setCell], fun k hk ho => Below.heap_setCell _ _ _ _ (by omega)⟩
theorem Kp.cell (h : Kp lo hi w w') {p : Addr} (hp : p.block < w.heap.size) (ho : p.block < lo ∨ hi ≤ p.block) : w'.cell? p = w.cell? p := World.cell?_of_block (w := w) (h.block _ hp ho)
theorem Kp.below {B : Nat} (h : Kp lo hi w w') (hB : B ≤ lo) (hw : B ≤ w.heap.size) : Below B w w' := ⟨h.os, h.tape, h.output, h.size, fun k hk => h.block k (by omega) (.inl (by omega))⟩
end

/-- A table of booleans of n rows that is being made: r rows are there. -/
structure MkM (wr : World) (g n r : Nat) (rb L : Nat → Nat) (M : Nat → Nat → Bool) : Prop where
 top : wr.rowIs g 137 n fun j => if j < r then .slice (some ⟨rb j, 0, none⟩) (L j) (L j) else .slice none 0 0
 row : ∀ j, j < r → wr.rowIs (rb j) 4 (L j) fun c => .bool (M j c)
theorem MkM.start (w : World) (n : Nat) (rb L : Nat → Nat) (M : Nat → Nat → Bool) : MkM (w.alloc (.cells (madeCells #[.slice none 0 0] n) 137)) w.heap.size n 0 rb L M :=
 ⟨(World.rowIs_made w _ n 137).congr fun j _ => by simp, fun j hj => absurd hj (Nat.not_lt_zero _)⟩
/-- A row more: made, and stored. -/
theorem MkM.next {wr : World} {g n r : Nat} {rb L : Nat → Nat} {M : Nat → Nat → Bool} (h : MkM wr g n r rb L M) (hr : r < n) (hb : rb r = wr.heap.size) (hg : ∀ j, j < r → rb j ≠ g) (hM : ∀ c, c < L r → M r c = false) :
  MkM ((wr.setCell ⟨g, r, none⟩ (.slice (some ⟨wr.heap.size, 0, none⟩) (L r) (L r))).alloc (.cells (madeCells #[.bool false] (L r)) 4)) g n (r + 1) rb L M := by
 have hgl := h.top.lt
 have hsz : (wr.setCell ⟨g, r, none⟩ (.slice (some ⟨wr.heap.size, 0, none⟩) (L r) (L r))).heap.size = wr.heap.size := by simp [World.setCell]
 refine ⟨((h.top.set r _).alloc _).congr fun j _ => ?_, fun j hj => ?_⟩
 ·by_cases e : j = r
  ·subst e; simp [hb]
  ·rw [if_neg e]
   by_cases hlt : j < r
   ·rw [if_pos hlt, if_pos (by omega)]
   ·rw [if_neg hlt, if_neg (by omega)]
 ·by_cases e : j = r
  ·subst e
   have h1 := World.rowIs_made (wr.setCell ⟨g, j, none⟩ (.slice (some ⟨wr.heap.size, 0, none⟩) (L j) (L j))) (.bool false) (L j) 4
   rw [hsz] at h1
   rw [hb]
   exact h1.congr fun c hc => by rw [hM c hc]
  ·exact ((h.row j (by omega)).setOther (by show rb j ≠ g; exact hg j (by omega)) _).alloc _
theorem MkM.done {wr : World} {g n : Nat} {rb L : Nat → Nat} {M : Nat → Nat → Bool} (h : MkM wr g n n rb L M) (hi : ∀ i j, i < n → j < n → rb i = rb j → i = j) (hg : ∀ j, j < n → rb j ≠ g) : MatIs wr g n rb L M :=
 ⟨h.top.lt, fun j hj => by have := h.top.cell hj; simpa [hj] using this, h.row, hi, hg⟩
theorem undB : Tryz.prog.underlying 137 = some (.slice 4) := by kernel_rfl
theorem undBs : Tryz.prog.underlying 117 = some (.slice 137) := by kernel_rfl
end

section
open Go Go.RowKit
set_option linter.unusedVariables false

def Fac (w : World) (bad : Nat → Prop) (A : Option Addr) (l : List (Int × Int)) : Prop :=
 l.length ≤ 140737488355328 ∧ (0 < l.length → ∃ b off, A = some ⟨b, off, none⟩ ∧ b < w.heap.size ∧ ¬ bad b ∧ ∀ k, k < l.length → w.cell? ⟨b, off + k * 2, none⟩ = some (.int .i64 (fv l k)) ∧ w.cell? ⟨b, off + k * 2 + 1, none⟩ = some (.int .i64 (fx l k)))
section
variable {w w' : World} {bad bad' : Nat → Prop} {A : Option Addr}
/-- A row of facts of the call's own. -/
def fcl (l : List (Int × Int)) : List Value := l.flatMap fun f => [.int .i64 f.1, .int .i64 f.2]
theorem fcl_get : ∀ (l : List (Int × Int)) (k : Nat), k < l.length → (fcl l)[k * 2]? = some (.int .i64 (fv l k)) ∧ (fcl l)[k * 2 + 1]? = some (.int .i64 (fx l k))
 | f :: l, 0, _ => ⟨rfl, rfl⟩
 | f :: l, k + 1, h => by
  obtain ⟨h1, h2⟩ := fcl_get l k (by simp at h; omega)
  have e : fcl (f :: l) = .int .i64 f.1 :: .int .i64 f.2 :: fcl l := rfl
  rw [e, show (k + 1) * 2 = k * 2 + 1 + 1 by omega]
  exact ⟨h1, h2⟩
theorem fcl_app (a b : List (Int × Int)) : fcl (a ++ b) = fcl a ++ fcl b := by unfold fcl; rw [List.flatMap_append]
end
end

end Go.Proofs.YtaampjhdgeoicaaGreat

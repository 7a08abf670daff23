/- Texts laid together: VhP, VhC, VhN, VhJ. -/
import Derived.Test.YtlkebhiaimijiaaGreatDoorBel
import Derived.Test.YtlkebhiaimijiaaGreatDoorNgJ
import Derived.Test.YtlkebhiaimijiaaGreatDoorNgC
import Derived.Test.YtlkebhiaimijiaaGreatDoorNgA
import Derived.Test.YtlkebhiaimijiaaGreatDoorVbD
import Derived.Test.YtlkebhiaimijiaaGreatDoorNgD
import Derived.Test.YtlkebhiaimijiaaGreatDoorNgE
import Derived.Maps.Keyed
import Derived.DeepKeys4
import Derived.Test.YtlkebhiaimijiaaGreatDoorNgB
namespace Go.Proofs.YtlkebhiaimijiaaGreatDoor
set_option linter.unusedSimpArgs false
set_option linter.unusedVariables false
section
open Go.RowKit
set_option linter.unusedVariables false

/-- The number of the first fact of a variable. -/
def frS (vars : List Int) : Nat → Int
 | 0 => 0
 | v + 1 => frS vars v + nth vars v
def numI (vars : List Int) (a : Fct) : Int := frS vars a.1.toNat + a.2
def numF (vars : List Int) (a : Fct) : Nat := (numI vars a).toNat
section
variable {vars : List Int} (hd : ∀ k, k < vars.length → 0 ≤ nth vars k)
include hd
theorem frS_mono : ∀ (v u : Nat), u ≤ v → v ≤ vars.length → frS vars u ≤ frS vars v
  | 0, u, h, _ => by have : u = 0 := by omega
                     subst this; exact Int.le_refl _
  | v + 1, u, h, hv => by
    rcases Nat.lt_or_ge u (v + 1) with h1 | h1
    · have := frS_mono v u (by omega) (by omega)
      have := hd v (by omega)
      show frS vars u ≤ frS vars v + nth vars v
      omega
    · have : u = v + 1 := by omega
      subst this; exact Int.le_refl _
theorem frS_nn {v : Nat} (hv : v ≤ vars.length) : 0 ≤ frS vars v := frS_mono hd v 0 (by omega) hv
theorem num_rng {a : Fct} (h : IsF vars a) : 0 ≤ numI vars a ∧ numI vars a < frS vars vars.length ∧ frS vars a.1.toNat ≤ numI vars a ∧ numI vars a < frS vars (a.1.toNat + 1) := by
 obtain ⟨h0, h1, h2, h3⟩ := h
 have hv : a.1.toNat < vars.length := by omega
 have e : frS vars (a.1.toNat + 1) = frS vars a.1.toNat + nth vars a.1.toNat := rfl
 have m := frS_mono hd vars.length (a.1.toNat + 1) (by omega) (Nat.le_refl _)
 have n := frS_nn hd (v := a.1.toNat) (by omega)
 unfold numI
 omega
theorem num_lt {a : Fct} (h : IsF vars a) : numF vars a < (frS vars vars.length).toNat := by
 have := num_rng hd h
 unfold numF
 omega
theorem num_nat {a : Fct} (h : IsF vars a) : ((numF vars a : Nat) : Int) = numI vars a := by
 have := num_rng hd h
 unfold numF
 omega
theorem num_inj {a b : Fct} (ha : IsF vars a) (hb : IsF vars b) (h : numF vars a = numF vars b) : a = b := by
 have ra := num_rng hd ha
 have rb := num_rng hd hb
 have na := num_nat hd ha
 have nb := num_nat hd hb
 obtain ⟨a0, a1, a2, a3⟩ := ha
 obtain ⟨b0, b1, b2, b3⟩ := hb
 have e : a.1.toNat = b.1.toNat := by
  rcases Nat.lt_trichotomy a.1.toNat b.1.toNat with h1 | h1 | h1
  ·have := frS_mono hd b.1.toNat (a.1.toNat + 1) (by omega) (by omega)
   omega
  ·exact h1
  ·have := frS_mono hd a.1.toNat (b.1.toNat + 1) (by omega) (by omega)
   omega
 have e1 : a.1 = b.1 := by omega
 have e2 : a.2 = b.2 := by
  have ia : numI vars a = frS vars a.1.toNat + a.2 := rfl
  have ib : numI vars b = frS vars b.1.toNat + b.2 := rfl
  rw [e] at ia
  omega
 exact Prod.ext e1 e2
omit hd
end

/-- The facts of a variable; of the first variables. -/
def faV (v n : Nat) : List Fct := (List.range n).map fun x : Nat => ((v : Int), (x : Int))
def faL (vars : List Int) (i : Nat) : List Fct := (List.range i).flatMap fun v => faV v (nth vars v).toNat
theorem faV_succ (v n : Nat) : faV v (n + 1) = faV v n ++ [((v : Int), (n : Int))] := by unfold faV; rw [List.range_succ, List.map_append]; rfl
theorem faL_succ (vars : List Int) (i : Nat) : faL vars (i + 1) = faL vars i ++ faV i (nth vars i).toNat := by unfold faL; rw [List.range_succ, List.flatMap_append]; simp
theorem mem_faV {v n : Nat} {a : Fct} : a ∈ faV v n ↔ a.1 = v ∧ 0 ≤ a.2 ∧ a.2 < n := by
 unfold faV
 rw [List.mem_map]
 constructor
 ·rintro ⟨x, hx, rfl⟩
  rw [List.mem_range] at hx
  exact ⟨rfl, by omega, by show (x : Int) < n; omega⟩
 ·rintro ⟨h1, h2, h3⟩
  exact ⟨a.2.toNat, by rw [List.mem_range]; omega, Prod.ext h1.symm (by show ((a.2.toNat : Nat) : Int) = a.2; omega)⟩
theorem mem_faL {vars : List Int} {a : Fct} : a ∈ faL vars vars.length ↔ IsF vars a := by
 unfold faL IsF
 rw [List.mem_flatMap]
 constructor
 ·rintro ⟨v, hv, h⟩
  rw [List.mem_range] at hv
  obtain ⟨h1, h2, h3⟩ := mem_faV.1 h
  have e : a.1.toNat = v := by omega
  rw [e]
  exact ⟨by omega, by omega, h2, by omega⟩
 ·rintro ⟨h1, h2, h3, h4⟩
  exact ⟨a.1.toNat, by rw [List.mem_range]; omega, mem_faV.2 ⟨by omega, h3, by omega⟩⟩
theorem faV_len (v n : Nat) : (faV v n).length = n := by unfold faV; rw [List.length_map, List.length_range]
theorem faL_len {vars : List Int} (hd : ∀ k, k < vars.length → 0 ≤ nth vars k) : ∀ i, i ≤ vars.length → (((faL vars i).length : Nat) : Int) = frS vars i
 | 0, _ => rfl
 | i + 1, h => by
  have h1 := faL_len hd i (by omega)
  have h2 := hd i (by omega)
  have e : frS vars (i + 1) = frS vars i + nth vars i := rfl
  rw [faL_succ, List.length_append, faV_len, e]
  omega
theorem faL_asc (vars : List Int) : ∀ i, (faL vars i).Pairwise (fun a b => a.1 ≤ b.1) ∧ ∀ a ∈ faL vars i, a.1 < i
 | 0 => ⟨List.Pairwise.nil, fun a h => by cases h⟩
 | i + 1 => by
  obtain ⟨h1, h2⟩ := faL_asc vars i
  rw [faL_succ]
  refine ⟨List.pairwise_append.2 ⟨h1, List.pairwise_of_forall_mem_list (fun a ha b hb => by rw [(mem_faV.1 ha).1, (mem_faV.1 hb).1]; exact Int.le_refl _), fun a ha b hb => by have := h2 a ha; rw [(mem_faV.1 hb).1]; omega⟩, fun a ha => ?_⟩
  rcases List.mem_append.1 ha with ha | ha
  ·have := h2 a ha; omega
  ·rw [(mem_faV.1 ha).1]; omega

/-- The sets that are open. -/
def op1 (R : Fct → Fct → Bool) (l : List Fct) : List (List Fct) := (l.filter fun a => !R a a).map fun a => [a]
def opG (R : Fct → Fct → Bool) (a b : Fct) : Bool := !(a.1 == b.1) && R a a && R b b && !R a b
def opI (R : Fct → Fct → Bool) (a : Fct) (l : List Fct) : List (List Fct) := (l.filter (opG R a)).map fun b => [a, b]
def op2 (R : Fct → Fct → Bool) (l : List Fct) : Nat → List (List Fct)
 | 0 => []
 | i + 1 => op2 R l i ++ opI R (fv l i, fx l i) (l.drop (i + 1))
def opL (R : Fct → Fct → Bool) (l : List Fct) : List (List Fct) := op1 R l ++ op2 R l l.length
theorem mem_op2 {R : Fct → Fct → Bool} {l : List Fct} {p : List Fct} : ∀ n, n ≤ l.length → (p ∈ op2 R l n ↔ ∃ i, i < n ∧ ∃ b ∈ l.drop (i + 1), opG R (fv l i, fx l i) b = true ∧ p = [(fv l i, fx l i), b])
 | 0, _ => ⟨fun h => (by cases h), fun h => by obtain ⟨i, h, _⟩ := h; omega⟩
 | n + 1, hn => by
  unfold op2
  rw [List.mem_append, mem_op2 n (by omega)]
  unfold opI
  rw [List.mem_map]
  constructor
  ·rintro (⟨i, hi, h⟩ | ⟨b, hb, rfl⟩)
   ·exact ⟨i, by omega, h⟩
   ·obtain ⟨h1, h2⟩ := List.mem_filter.1 hb
    exact ⟨n, by omega, b, h1, h2, rfl⟩
  ·rintro ⟨i, hi, b, hb, hg, rfl⟩
   rcases Nat.lt_or_ge i n with h | h
   ·exact .inl ⟨i, h, b, hb, hg, rfl⟩
   ·have : i = n := by omega
    subst this
    exact .inr ⟨b, List.mem_filter.2 ⟨hb, hg⟩, rfl⟩
theorem op2_len {R : Fct → Fct → Bool} {l : List Fct} : ∀ n, (op2 R l n).length ≤ n * l.length
 | 0 => Nat.zero_le _
 | n + 1 => by
  have h1 := op2_len (R := R) (l := l) n
  have h2 : (opI R (fv l n, fx l n) (l.drop (n + 1))).length ≤ l.length := by
   unfold opI
   rw [List.length_map]
   exact Nat.le_trans (List.length_filter_le _ _) (by rw [List.length_drop]; omega)
  unfold op2
  rw [List.length_append, Nat.add_mul, Nat.one_mul]
  omega
theorem op1_len {R : Fct → Fct → Bool} {l : List Fct} : (op1 R l).length ≤ l.length := by
 unfold op1; rw [List.length_map]; exact List.length_filter_le _ _
theorem opL_len {R : Fct → Fct → Bool} {l : List Fct} : (opL R l).length ≤ l.length + l.length * l.length := by
 unfold opL
 rw [List.length_append]
 have := op1_len (R := R) (l := l)
 have := op2_len (R := R) (l := l) l.length
 omega
theorem mem_op1 {R : Fct → Fct → Bool} {l : List Fct} {p : List Fct} : p ∈ op1 R l ↔ ∃ a ∈ l, p = [a] ∧ R a a = false := by
 unfold op1
 rw [List.mem_map]
 constructor
 ·rintro ⟨a, ha, rfl⟩
  obtain ⟨h1, h2⟩ := List.mem_filter.1 ha
  exact ⟨a, h1, rfl, by simpa using h2⟩
 ·rintro ⟨a, ha, rfl, h⟩
  exact ⟨a, List.mem_filter.2 ⟨ha, by simp [h]⟩, rfl⟩
theorem mem_opL {vars : List Int} {R : Fct → Fct → Bool} {p : List Fct} : p ∈ opL R (faL vars vars.length) ↔ OpenS vars R p := by
 unfold opL
 rw [List.mem_append, mem_op1, mem_op2 _ (Nat.le_refl _)]
 have hasc := (faL_asc vars vars.length).1
 unfold OpenS
 constructor
 ·rintro (⟨a, ha, rfl, h⟩ | ⟨i, hi, b, hb, hg, rfl⟩)
  ·exact .inl ⟨a, rfl, mem_faL.1 ha, h⟩
  ·have hi' := fct_mem hi
   have hle : (fv (faL vars vars.length) i) ≤ b.1 := by
    obtain ⟨j, hj, rfl⟩ := List.mem_iff_getElem.1 hb
    rw [List.getElem_drop]
    have := List.pairwise_iff_getElem.1 hasc i (i + 1 + j) hi (by rw [List.length_drop] at hj; omega) (by omega)
    rw [fct_get hi] at this
    exact this
   unfold opG at hg
   simp only [Bool.and_eq_true, Bool.not_eq_true', beq_eq_false_iff_ne] at hg
   obtain ⟨⟨⟨h1, h2⟩, h3⟩, h4⟩ := hg
   exact .inr ⟨_, b, rfl, mem_faL.1 hi', mem_faL.1 (List.mem_of_mem_drop hb), by have h1' : fv (faL vars vars.length) i ≠ b.1 := h1; show fv (faL vars vars.length) i < b.1; omega, h2, h3, h4⟩
 ·rintro (⟨a, rfl, ha, h⟩ | ⟨a, b, rfl, ha, hb, hlt, h1, h2, h3⟩)
  ·exact .inl ⟨a, mem_faL.2 ha, rfl, h⟩
  ·refine .inr ?_
   obtain ⟨i, hi, ea⟩ := mem_fct (mem_faL.2 ha)
   obtain ⟨j, hj, eb⟩ := List.mem_iff_getElem.1 (mem_faL.2 hb)
   have hij : i < j := by
    rcases Nat.lt_trichotomy i j with h | h | h
    ·exact h
    ·subst h; rw [fct_get hi, ← ea] at eb; subst eb; omega
    ·have := List.pairwise_iff_getElem.1 hasc j i hj hi h
     rw [eb, fct_get hi, ← ea] at this
     omega
   refine ⟨i, hi, b, List.mem_iff_getElem.2 ⟨j - (i + 1), by rw [List.length_drop]; omega, ?_⟩, ?_, by rw [ea]⟩
   ·rw [List.getElem_drop]
    have : i + 1 + (j - (i + 1)) = j := by omega
    simp only [this]
    exact eb
   ·rw [← ea]
    unfold opG
    simp only [Bool.and_eq_true, Bool.not_eq_true', beq_eq_false_iff_ne]
    exact ⟨⟨⟨by omega, h1⟩, h2⟩, h3⟩
end

section
open Go Go.RowKit
set_option linter.unusedVariables false

/-- The first facts' numbers. -/
def frL (vars : List Int) : List Int := (List.range vars.length).map fun v => frS vars v
theorem frL_len (vars : List Int) : (frL vars).length = vars.length := by unfold frL; simp
theorem frL_nth {vars : List Int} {v : Nat} (h : v < vars.length) : nth (frL vars) v = frS vars v := by unfold frL nth; simp [List.getD, h]
def nF (vars : List Int) : Nat := (frS vars vars.length).toNat
/-- A table in memory: what lies below B stands still. -/
structure TblAt (w : World) (B X : Nat) (t : Tsk) (p : Lies) (fa : Option Addr) (fc : Nat) (ra : Option Addr) (rc g : Nat) (rb : Nat → Nat) (M : Nat → Nat → Bool) : Prop where
 box : BxI w X 73 #[.slice p.av t.vars.length p.cv, .slice p.ai t.init.length p.ci, .slice p.ag t.goal.length p.cg, .slice p.ao t.ops.length p.co, .slice fa t.vars.length fc, .slice ra (nF t.vars) rc]
 tsk : TaskAt w B t p
 fst : IntsAt w B fa (frL t.vars)
 xB : X < B
 le : B ≤ w.heap.size
 mat : 0 < nF t.vars → ra = some ⟨g, 0, none⟩ ∧ B ≤ g ∧ (∀ j, j < nF t.vars → B ≤ rb j) ∧ MatIs w g (nF t.vars) rb (fun _ => nF t.vars) M
section
variable {w w' : World} {B X fc rc g : Nat} {t : Tsk} {p : Lies} {fa ra : Option Addr} {rb : Nat → Nat} {M : Nat → Nat → Bool}
theorem TblAt.up (h : TblAt w B X t p fa fc ra rc g rb M) (k : Below w.heap.size w w') : TblAt w' B X t p fa fc ra rc g rb M where
 box := h.box.up k
 tsk := h.tsk.below (k.mono h.le)
 fst := h.fst.below (k.mono h.le)
 xB := h.xB
 le := Nat.le_trans h.le k.size
 mat := fun hp => by
  obtain ⟨h1, h2, h3, h4⟩ := h.mat hp
  exact ⟨h1, h2, h3, h4.up k⟩
theorem TblAt.pos (h : TblAt w B X t p fa fc ra rc g rb M) (hd : ∀ k, k < t.vars.length → 0 ≤ nth t.vars k) {a : Fct} (ha : IsF t.vars a) : 0 < nF t.vars := by
 have := num_lt hd ha
 unfold nF; omega
end
set_option maxHeartbeats 4000000 in
theorem tnumber_any {B X fc rc g : Nat} {t : Tsk} {p : Lies} {fa ra : Option Addr} {rb : Nat → Nat} {M : Nat → Nat → Bool} (hd : ∀ k, k < t.vars.length → 1 ≤ nth t.vars k ∧ nth t.vars k ≤ 64) (hn : t.vars.length ≤ 64) (a : Fct) (ha : IsF t.vars a) (w : World) (h : TblAt w B X t p fa fc ra rc g rb M) :
  Calls Tryz.prog 59 #[.pointer (some ⟨X, 0, none⟩), .agg #[.int .i64 a.1, .int .i64 a.2]] w fun e w' => e = .returned (.int .i64 (numF t.vars a : Nat)) ∧ Below w.heap.size w w' := by
 have hd0 : ∀ k, k < t.vars.length → 0 ≤ nth t.vars k := fun k hk => by have := hd k hk; omega
 have hr := num_rng hd0 ha
 have hnn := num_nat hd0 ha
 have hf4 : frS t.vars t.vars.length ≤ 4096 := by
  have : ∀ i, i ≤ t.vars.length → frS t.vars i ≤ 64 * i := fun i => by
   induction i with
   | zero => intro _; exact Int.le_refl _
   | succ i ih =>
    intro hi
    have h1 := ih (by omega)
    have h2 := hd i (by omega)
    have e : frS t.vars (i + 1) = frS t.vars i + nth t.vars i := rfl
    omega
  have := this _ (Nat.le_refl _)
  omega
 obtain ⟨v, hv⟩ : ∃ v : Nat, a.1 = v := ⟨a.1.toNat, by have := ha.1; omega⟩
 obtain ⟨x, hx⟩ : ∃ x, a.2 = x := ⟨_, rfl⟩
 have hvl : v < t.vars.length := by have := ha.2.1; omega
 have hx0 : 0 ≤ x := by have := ha.2.2.1; omega
 have e1 : numI t.vars a = frS t.vars v + x := by unfold numI; rw [hv, hx]; rfl
 obtain ⟨b, off, rfl, hb, hc⟩ := h.fst.at_ (k := v) (by rw [frL_len]; exact hvl)
 have d1 := hc v (by rw [frL_len]; exact hvl)
 rw [frL_nth hvl] at d1
 have x4 := h.box.cell 4 (.slice (some ⟨b, off, none⟩) t.vars.length fc) rfl
 have hXl := h.box.lt
 have hBl := h.le
 rw [hv, hx]
 obtain ⟨f, hf⟩ : ∃ f, f = frS t.vars v := ⟨_, rfl⟩
 rw [← hf] at d1 e1
 have q1 : IntKind.i64.wrap (f + x) = f + x := IntWalk.i64_in _ (by omega)
 have HS := Lib.hid (show ((numF t.vars a : Nat) : Int) = f + x by omega)
 have hb2 : b < w.heap.size := by omega
 clear hf hc h hr hnn e1 hv hx ha hf4
 go_enter Tryz.func59, Tryz.ntmps59
 go_wp2_with fail
 go_quiet (fail)
 go_wp2
 go_ret
 exact ⟨by rw [HS.out]; rfl, by exact bel⟩
end

section
open Go Go.RowKit Go.Maps
set_option linter.unusedVariables false

/-- A key of three numbers. -/
def ck (a b c : Int) : Value := .agg #[.int .i64 a, .int .i64 b, .int .i64 c]
theorem ck_inj {a b c a' b' c' : Int} (h : ck a b c = ck a' b' c') : a = a' ∧ b = b' ∧ c = c' := by
 unfold ck at h
 injection h with h
 simp at h
 exact h
def CkI (a : Int) : Prop := (Lit.int .i64 a).wf = true
theorem ckI_of {a : Int} (h0 : 0 ≤ a) (h1 : a ≤ 1000000) : CkI a := by
 unfold CkI
 simp only [Lit.wf, IntKind.min, IntKind.max, IntKind.signed, IntKind.bits, Bool.and_eq_true, decide_eq_true_eq, if_true]
 omega
theorem cau_laidOut : laidOutB Tryz.prog = true := by kernel_rfl
theorem cau_und : Tryz.prog.underlying 129 = some (.array 3 3) := by kernel_rfl
theorem cau_int : Tryz.prog.underlying 3 = some (.int .i64) := by kernel_rfl
theorem cau_wide : (match Tryz.prog.underlying 129 with | some (.array _ _) | some (.struct _) => true | _ => false) = true := by rw [cau_und]
theorem cau_row : (129 : TypeId) < Tryz.prog.types.size := of_decide_eq_true (by kernel_rfl)
theorem cau_law : Keyed Tryz.prog 129 := Keyed.of_law (deep_law_laid cau_laidOut (m := 2) (by omega) cau_row (by kernel_rfl) (by rw [cau_und]))
theorem cau_kt : Tryz.prog.keyType 129 = true := by kernel_rfl
theorem cau_c3 : Tryz.prog.cellsOf 129 = 3 := by kernel_rfl
theorem cau_c1 : Tryz.prog.cellsOf 3 = 1 := by kernel_rfl
theorem cau_key {a b c : Int} (ha : CkI a) (hb : CkI b) (hc : CkI c) : ∃ l, keyOf Tryz.prog 129 (ck a b c) = some l := by
 have hf : (ck a b c).formed Tryz.prog 129 = true := by unfold ck; simp [Value.formed, cau_und, cau_c3]
 obtain ⟨n, hn⟩ : ∃ n, Tryz.prog.types.size = n + 1 := Nat.exists_eq_succ_of_ne_zero (fun e => by have h := cau_row; rw [e] at h; exact absurd h (by decide))
 unfold keyOf
 rw [cau_und]
 dsimp only
 rw [cau_kt, hf, hn]
 unfold CkI at ha hb hc
 have hk : Tryz.prog.keyLits (n + 1 + 1) 129 (ck a b c).cells.toList = some [.int .i64 a, .int .i64 b, .int .i64 c] := by
  unfold ck
  simp [Program.keyLits, cau_und, cau_c3, cau_c1, cau_int, Value.cells, List.range, List.range.loop, ha, hb, hc]
 rw [hk]
 exact ⟨_, rfl⟩
/-- A map's entries: the keys are three numbers, each once. -/
structure CTab (es : List MapEntry) : Prop where
 keys : ∀ x ∈ es, ∃ a b c, CkI a ∧ CkI b ∧ CkI c ∧ x.key = ck a b c
 once : (es.map (·.key)).Nodup
/-- What stands at a key. -/
def CIs (es : List MapEntry) (k : Value) (v : Value) : Prop := (∃ x ∈ es, x.key = k ∧ x.val = v) ∨ ((∀ x ∈ es, x.key ≠ k) ∧ v = .pointer none)
theorem CIs.uni {es : List MapEntry} (H : CTab es) {k v v' : Value} (a : CIs es k v) (b : CIs es k v') : v = v' := by
 rcases a with ⟨x, hx, kx, rfl⟩ | ⟨na, rfl⟩
 ·rcases b with ⟨y, hy, ky, rfl⟩ | ⟨nb, rfl⟩
  ·obtain ⟨i, hi, rfl⟩ := List.getElem_of_mem hx
   obtain ⟨j, hj, rfl⟩ := List.getElem_of_mem hy
   have hn := H.once
   rw [List.Nodup, List.pairwise_map, List.pairwise_iff_getElem] at hn
   rcases Nat.lt_trichotomy i j with h1 | h1 | h1
   ·exact absurd (kx.trans ky.symm) (hn i j hi hj h1)
   ·subst h1; rfl
   ·exact absurd (ky.trans kx.symm) (hn j i hj hi h1)
  ·exact absurd kx (nb x hx)
 ·rcases b with ⟨y, hy, ky, rfl⟩ | ⟨nb, rfl⟩
  ·exact absurd ky (na y hy)
  ·rfl
theorem ctab_nil : CTab [] := ⟨fun x hx => (by cases hx), List.nodup_nil⟩
theorem cis_nil {k v : Value} (h : CIs [] k v) : v = .pointer none := by
 rcases h with ⟨x, hx, _⟩ | ⟨_, h⟩
 ·cases hx
 ·exact h
theorem ctabTy : Tryz.prog.underlying 76 = some (.map 129 130) := by kernel_rfl
theorem ctabKeys {es : List MapEntry} (H : CTab es) : ∀ e ∈ es, ∃ l, keyOf Tryz.prog 129 e.key = some l := fun e he => by
 obtain ⟨a, b, c, ha, hb, hc, hk⟩ := H.keys e he
 rw [hk]
 exact cau_key ha hb hc
theorem ctab_zero (w : World) : (zeroValue 130).run Tryz.prog w = .ok (.pointer none) w := by kernel_rfl
/-- 'm[k]'. -/
theorem ctab_look {w : World} {m : Nat} {es : Array MapEntry} {clock : Nat} (hm : w.heap[m]? = some (.map es clock)) (H : CTab es.toList) {a b c : Int} (ha : CkI a) (hb : CkI b) (hc : CkI c) :
  ∃ v, CIs es.toList (ck a b c) v ∧ (Instr.lookup 76 (.map (some m)) (.agg #[.int .i64 a, .int .i64 b, .int .i64 c]) false).run Tryz.prog w = .ok v w := by
 have K := cau_law
 obtain ⟨l, hl⟩ := cau_key ha hb hc
 rcases K.find w hl es.toList (ctabKeys H) with ⟨h1, h2⟩ | ⟨j, e0, h1, h2, h3⟩
 ·refine ⟨_, .inr ⟨h2, rfl⟩, ?_⟩
  have hc := fun em => K.check w em hl
  unfold ck at h1 hc
  simp [Instr.lookup, run_underlying ctabTy, MapKept.run_getObj_map hm, hc, h1, ctab_zero w, Result.andThen]
 ·refine ⟨e0.val, .inl ⟨e0, List.mem_of_getElem? h2, h3, rfl⟩, ?_⟩
  have hc := fun em => K.check w em hl
  unfold ck at h1 hc
  simp [Instr.lookup, run_underlying ctabTy, MapKept.run_getObj_map hm, hc, h1, Result.andThen]
/-- 'm[k] = v', where nothing stands at k yet. -/
theorem ctab_store {w : World} {m : Nat} {es : Array MapEntry} {clock : Nat} (hm : w.heap[m]? = some (.map es clock)) (H : CTab es.toList) {a b c : Int} (ha : CkI a) (hb : CkI b) (hc : CkI c) (hno : ∀ x ∈ es.toList, x.key ≠ ck a b c) (v : Value) :
  ∃ es' clock', (Instr.mapUpdate 76 (.map (some m)) (.agg #[.int .i64 a, .int .i64 b, .int .i64 c]) v).run Tryz.prog w = .ok () (ChangeMaps.setBlock w m (.map es' clock')) ∧ CTab es'.toList ∧
   ∀ x ∈ es'.toList, (x.key = ck a b c ∧ x.val = v) ∨ x ∈ es.toList := by
 have K := cau_law
 obtain ⟨l, hl⟩ := cau_key ha hb hc
 rcases K.find w hl es.toList (ctabKeys H) with ⟨h1, h2⟩ | ⟨j, e0, h1, h2, h3⟩
 ·have hck := fun em => K.check w em hl
  refine ⟨es.push ⟨ck a b c, v, clock⟩, clock + 1, ?_, ⟨?_, ?_⟩, fun x hk => ?_⟩
  ·unfold ck at h1 hck ⊢
   simp [Instr.mapUpdate, run_underlying ctabTy, MapKept.run_getObj_map hm, hck, h1, MapKept.run_setObj_map _ hm, Result.andThen, ChangeMaps.setBlock]
  ·intro x hx
   simp only [Array.toList_push, List.mem_append, List.mem_singleton] at hx
   rcases hx with hx | rfl
   ·exact H.keys x hx
   ·exact ⟨a, b, c, ha, hb, hc, rfl⟩
  ·rw [Array.toList_push, List.map_append, List.nodup_append]
   refine ⟨H.once, by simp, ?_⟩
   intro q hq b' hb'
   obtain ⟨x, hx, rfl⟩ := List.mem_map.1 hq
   simp only [List.map_cons, List.map_nil, List.mem_singleton] at hb'
   subst hb'
   exact h2 x hx
  ·simp only [Array.toList_push, List.mem_append, List.mem_singleton] at hk
   rcases hk with hk | rfl
   ·exact .inr hk
   ·exact .inl ⟨rfl, rfl⟩
 ·exact absurd h3 (hno e0 (List.mem_of_getElem? h2))
end

section
open Go Go.RowKit
set_option linter.unusedVariables false

theorem Kb.mono {bad bad' : Nat → Prop} {w w' : World} (h : Kb bad w w') (hb : ∀ b, b < w.heap.size → bad b → bad' b) : Kb bad' w w' :=
 ⟨h.os, h.tape, h.output, h.size, fun k hk ho => h.block k hk fun h1 => ho (hb k hk h1)⟩
theorem kb_grown {w w' : World} {row : Option Nat} (hg : w.grownBy w' row) : Kb (fun b => row = some b) w w' := (Kb.refl _ w).grown hg (fun k e => .inl e)
theorem kb_set {w : World} {p : Addr} (u : Value) : Kb (fun b => b = p.block) w (w.setCell p u) := (Kb.refl (fun b => b = p.block) w).set (p := p) (.inl rfl) u
theorem kb_alloc (w : World) (o : Obj) (bad : Nat → Prop) : Kb bad w (w.alloc o) := (Kb.refl _ w).alloc o
theorem own_kb1 {w w' : World} {c : Nat → Prop} {B s n : Nat} {e : TypeId} {v : Value} {xs : List Value} (h : w.ownsRow B e s v n xs) (k : Kb c w w') (hb : ∀ g, v.ownBlock = some g → ¬ c g) : w'.ownsRow B e s v n xs := own_kb h k hb
theorem four_v {a b c d : Value} (h1 : a.oneCell' = true) (h2 : b.oneCell' = true) (h3 : c.oneCell' = true) (h4 : d.oneCell' = true) : ∀ v ∈ [a, b, c, d], v.oneCell' = true := by
 intro v hv
 simp only [List.mem_cons, List.not_mem_nil, or_false] at hv
 rcases hv with rfl | rfl | rfl | rfl <;> assumption
theorem own_blk {w : World} {B s m : Nat} {e : TypeId} {v : Value} {xs : List Value} (h : w.ownsRow B e s v m xs) {g : Nat} (hg : v.ownBlock = some g) : ∃ cur, w.heap[g]? = some (.cells cur e (0, 0)) := by
 rcases h.2 with ⟨h0, _⟩ | ⟨b, cap, cur, h1, hb, hg', _⟩
 ·rw [h0] at hg; cases hg
 ·rw [h1] at hg
  simp [Value.ownBlock] at hg
  subst hg
  exact ⟨cur, hg'⟩
theorem own_frozen' {w : World} {B s n m : Nat} {e : TypeId} {A : Option Addr} {c : Nat} {xs : List Value} (h : w.ownsRow B e s (.slice A m c) n xs) (hn : 0 < n) : ∃ g, A = some ⟨g, 0, none⟩ ∧ B ≤ g ∧ g < w.heap.size ∧ ∀ k, w.frozen? ⟨g, k, none⟩ = false := by
 rcases h.2 with ⟨h0, h1⟩ | ⟨g, cap, cur, h0, hb, hg, _⟩
 ·omega
 ·injection h0 with h0 _ _
  exact ⟨g, h0, hb, (Array.getElem?_eq_some_iff.1 hg).1, fun k => by simp [World.frozen?, hg]⟩

/-- Numbers in a block that is not bad. -/
def IntK (w : World) (bad : Nat → Prop) (A : Option Addr) (l : List Int) : Prop :=
 l.length ≤ 140737488355328 ∧ (0 < l.length → ∃ b off, A = some ⟨b, off, none⟩ ∧ b < w.heap.size ∧ ¬ bad b ∧ ∀ k, k < l.length → w.cell? ⟨b, off + k, none⟩ = some (.int .i64 (nth l k)))
theorem IntK.move {w w' : World} {bad bad' : Nat → Prop} {A : Option Addr} {l : List Int} (h : IntK w bad A l) (m : Moves w w' bad bad') : IntK w' bad' A l :=
 ⟨h.1, fun hn => by
  obtain ⟨b, off, e, hb, hx, hc⟩ := h.2 hn
  exact ⟨b, off, e, Nat.lt_of_lt_of_le hb m.size, fun h2 => hx (m.bad b hb h2), fun k hk => (m.cell (p := ⟨b, _, none⟩) hb hx).trans (hc k hk)⟩⟩
theorem IntK.at_ {w : World} {bad : Nat → Prop} {A : Option Addr} {l : List Int} (h : IntK w bad A l) : IntsAt w w.heap.size A l :=
 ⟨h.1, fun hn => by
  obtain ⟨b, off, e, hb, hx, hc⟩ := h.2 hn
  exact ⟨b, off, e, hb, hc⟩⟩
theorem Moves.of_kb {w w' : World} {c bad bad' : Nat → Prop} (k : Kb c w w') (hc : ∀ b, b < w.heap.size → c b → bad b) (hb : ∀ b, b < w.heap.size → bad' b → bad b) : Moves w w' bad bad' :=
 ⟨k.size, fun b h1 h2 => k.block b h1 (fun h3 => h2 (hc b h1 h3)), hb⟩
theorem facts_rowx {w : World} {B : Nat} {A : Option Addr} {l : List (Int × Int)} (h : FactsAt w B A l) : RowX w B A l.length (fcl l) := fun h0 => by
 obtain ⟨b, off, e, hb, hc⟩ := h.2 h0
 refine ⟨b, off, e, hb, fun j u hj => ?_⟩
 have hl : j < l.length * 2 := by
  have h1 := (List.getElem?_eq_some_iff.1 hj).1
  have h2 : ∀ m : List (Int × Int), (fcl m).length = m.length * 2 := fun m => by
   induction m with
   | nil => rfl
   | cons f r ih => show (_ :: _ :: fcl r).length = _; simp only [List.length_cons, ih]; omega
  rw [h2] at h1
  exact h1
 obtain ⟨k, hk⟩ : ∃ k, j = k * 2 ∨ j = k * 2 + 1 := ⟨j / 2, by omega⟩
 have hk2 : k < l.length := by omega
 obtain ⟨g1, g2⟩ := fcl_get l k hk2
 obtain ⟨c1, c2⟩ := hc k hk2
 rcases hk with rfl | rfl
 ·rw [g1] at hj; injection hj with hj; subst hj; exact c1
 ·rw [g2] at hj; injection hj with hj; subst hj; rw [← Nat.add_assoc]; exact c2
theorem fclJ_len (l : List (Int × Int)) : (fcl l).length = l.length * 2 := by
 induction l with
 | nil => rfl
 | cons f r ih => show (_ :: _ :: fcl r).length = _; simp only [List.length_cons, ih]; omega
theorem fclJ_one (l : List (Int × Int)) : ∀ u ∈ fcl l, u.oneCell' = true := fun u hu => by
 unfold fcl at hu
 obtain ⟨f, _, hf⟩ := List.mem_flatMap.1 hu
 simp at hf
 rcases hf with rfl | rfl <;> rfl
theorem cloneF2 (l : List (Int × Int)) (A : Option Addr) (c : Nat) (w : World) (h : FactsAt w w.heap.size A l) (hl : l.length ≤ 100000) :
  Calls Tryz.prog 33 #[.slice A l.length c] w fun e w' => (∃ A' c', e = .returned (.slice A' l.length c') ∧ (∀ bad : Nat → Prop, (∀ g, w.heap.size ≤ g → g < w'.heap.size → ¬ bad g) → Fac w' bad A' l) ∧ w'.ownsRow w.heap.size 68 2 (.slice A' l.length c') l.length (fcl l)) ∧ Below w.heap.size w w' := by
 refine (cloneF_any (fcl l) l.length A c w (facts_rowx h) (fclJ_len l) (fclJ_one l) (by omega)).mono ?_
 rintro e w' ⟨⟨v, rfl, hv⟩, hb⟩
 obtain ⟨A', c', hs⟩ := own_shape hv
 subst hs
 refine ⟨⟨A', c', rfl, fun bad hbad => ?_, hv⟩, hb⟩
 obtain ⟨A2, c2, e2, _, hf⟩ := own_fac (bad := bad) hv rfl h.1 hbad
 injection e2 with e2 _ _
 subst e2
 exact hf
theorem own_intk {w : World} {B : Nat} {bad : Nat → Prop} {A : Option Addr} {c : Nat} {l : List Int} (h : w.ownsRow B 3 1 (.slice A l.length c) l.length (ic l)) (hl : l.length ≤ 140737488355328) (hb : ∀ g, B ≤ g → g < w.heap.size → ¬ bad g) : IntK w bad A l := by
 refine ⟨hl, fun h0 => ?_⟩
 obtain ⟨g, rfl, h1, h2, _⟩ := own_frozen' h h0
 exact ⟨g, 0, rfl, h2, hb g h1 h2, fun k hk => by rw [Nat.zero_add]; exact own_cell h (ic_get hk)⟩
theorem cloneI2 (l : List Int) (A : Option Addr) (c : Nat) (w : World) (h : IntsAt w w.heap.size A l) (hl : l.length ≤ 100000) :
  Calls Tryz.prog 58 #[.slice A l.length c] w fun e w' => (∃ A' c', e = .returned (.slice A' l.length c') ∧ (∀ bad : Nat → Prop, (∀ g, w.heap.size ≤ g → g < w'.heap.size → ¬ bad g) → IntK w' bad A' l) ∧ w'.ownsRow w.heap.size 3 1 (.slice A' l.length c') l.length (ic l)) ∧ Below w.heap.size w w' := by
 refine (clone_any l A c w h (by omega)).mono ?_
 rintro e w' ⟨⟨v, rfl, hv⟩, hb⟩
 obtain ⟨A', c', hs⟩ := own_shape hv
 subst hs
 exact ⟨⟨A', c', rfl, fun bad hbad => own_intk hv (by omega) hbad, hv⟩, hb⟩
/-- Rows of the call's own, by their types apart from a box. -/
theorem own_intk2 {w : World} {B : Nat} {bad : Nat → Prop} {A : Option Addr} {c : Nat} {l : List Int} (h : w.ownsRow B 3 1 (.slice A l.length c) l.length (ic l)) (hl : l.length ≤ 140737488355328) (hb : ∀ g, (Value.slice A l.length c).ownBlock = some g → ¬ bad g) : IntK w bad A l := by
 refine ⟨hl, fun h0 => ?_⟩
 obtain ⟨g, rfl, h1, h2, _⟩ := own_frozen' h h0
 exact ⟨g, 0, rfl, h2, hb g rfl, fun k hk => by rw [Nat.zero_add]; exact own_cell h (ic_get hk)⟩
theorem own_fac2 {w : World} {B : Nat} {bad : Nat → Prop} {A : Option Addr} {c : Nat} {l : List (Int × Int)} {T : TypeId} (h : w.ownsRow B T 2 (.slice A l.length c) l.length (fcl l)) (hl : l.length ≤ 140737488355328) (hb : ∀ g, (Value.slice A l.length c).ownBlock = some g → ¬ bad g) : Fac w bad A l := by
 refine ⟨hl, fun h0 => ?_⟩
 obtain ⟨g, rfl, h1, h2, _⟩ := own_frozen' h h0
 refine ⟨g, 0, rfl, h2, hb g rfl, fun k hk => ?_⟩
 obtain ⟨g1, g2⟩ := fcl_get l k hk
 exact ⟨by simpa using own_cell h g1, by simpa using own_cell h g2⟩
theorem own_ne_box {w : World} {B s n : Nat} {e T : TypeId} {v : Value} {xs : List Value} {X : Nat} {cs : Array Value} (h : w.ownsRow B e s v n xs) (hx : BxI w X T cs) (hne : e ≠ T) : ∀ g, v.ownBlock = some g → ¬ g = X := fun g hg e2 => by
 obtain ⟨cur, hc⟩ := own_blk h hg
 subst e2
 unfold BxI at hx
 rw [hc] at hx
 injection hx with hx
 injection hx with _ hx _
 exact hne hx
theorem kb_sets {X : Nat} : ∀ (vs : List Value) (o : Nat) (w : World), Kb (fun b => b = X) w (w.setCells X o vs)
 | [], _, w => Kb.refl _ w
 | v :: r, o, w => (kb_set (p := ⟨X, o, none⟩) v).trans (kb_sets r (o + 1) _)
theorem Kb.then_ {bad c : Nat → Prop} {W w w' : World} (h : Kb bad W w) (k : Kb c w w') (hc : ∀ b, b < W.heap.size → c b → bad b) : Kb bad W w' :=
 ⟨k.os.trans h.os, k.tape.trans h.tape, k.output.trans h.output, Nat.le_trans h.size k.size, fun b hb hn => (k.block b (Nat.lt_of_lt_of_le hb h.size) (fun e => hn (hc b hb e))).trans (h.block b hb hn)⟩
theorem below_then {c : Nat → Prop} {B : Nat} {W w w' : World} (h : Below B W w) (k : Kb c w w') (hc : ∀ b, b < B → ¬ c b) (hB : B ≤ w.heap.size) : Below B W w' :=
 ⟨k.os.trans h.os, k.tape.trans h.tape, k.output.trans h.output, Nat.le_trans h.size k.size, fun b hb => (k.block b (Nat.lt_of_lt_of_le hb hB) (hc b hb)).trans (h.block b hb)⟩
theorem take_opr {l : List Opr} {i : Nat} (h : i < l.length) : l.take (i + 1) = l.take i ++ [opr l i] := by
 rw [List.take_succ_eq_append_getElem h]; unfold opr; simp [List.getD, h]
theorem take_eff {l : List Eff} {i : Nat} (h : i < l.length) : l.take (i + 1) = l.take i ++ [eff l i] := by
 rw [List.take_succ_eq_append_getElem h]; unfold eff; simp [List.getD, h]
theorem qundOp : Tryz.prog.underlying 24 = some (.slice 63) := by kernel_rfl
theorem qinfOp : (Tryz.prog.info? 63).map (fun i => (i.zero, i.size, i.bytes)) = some (some (.agg #[.string ByteArray.empty, .int .i64 0, .slice none 0 0, .slice none 0 0]), 4, 72) := by kernel_rfl
theorem qundEf : Tryz.prog.underlying 61 = some (.slice 65) := by kernel_rfl
theorem qinfEf : (Tryz.prog.info? 65).map (fun i => (i.zero, i.size, i.bytes)) = some (some (.agg #[.slice none 0 0, .int .i64 0, .int .i64 0]), 3, 40) := by kernel_rfl
/-- The box of a copy, filled. -/
theorem copy_leaf {W0 Wb wy : World} {X c0 c1 c2 : Nat} {a0 a1 a2 : Option Addr} {t : Tsk} {old : Array Value} (hwy : wy = Wb.setCells X 0 [.slice a0 t.vars.length c0, .slice a1 t.init.length c1, .slice a2 t.goal.length c2, .slice none 0 0])
  (HX : BxI Wb X 26 old) (hold : old.size = 4) (hX : W0.heap.size ≤ X) (HB : Below W0.heap.size W0 Wb) (o0 : Wb.ownsRow W0.heap.size 3 1 (.slice a0 t.vars.length c0) t.vars.length (ic t.vars))
  (o1 : Wb.ownsRow W0.heap.size 3 1 (.slice a1 t.init.length c1) t.init.length (ic t.init)) (o2 : Wb.ownsRow W0.heap.size 68 2 (.slice a2 t.goal.length c2) t.goal.length (fcl t.goal)) (l0 : t.vars.length ≤ 1000) (l1 : t.init.length ≤ 1000) (l2 : t.goal.length ≤ 1000) :
  BxI wy X 26 #[.slice a0 t.vars.length c0, .slice a1 t.init.length c1, .slice a2 t.goal.length c2, .slice none 0 0] ∧ Below W0.heap.size W0 wy ∧ IntK wy (fun b => b = X ∨ b < W0.heap.size) a0 t.vars ∧ IntK wy (fun b => b = X ∨ b < W0.heap.size) a1 t.init ∧ Fac wy (fun b => b = X ∨ b < W0.heap.size) a2 t.goal := by
 have n0 := own_ne_box o0 HX (by decide)
 have n1 := own_ne_box o1 HX (by decide)
 have n2 := own_ne_box o2 HX (by decide)
 have K := kb_sets (X := X) [.slice a0 t.vars.length c0, .slice a1 t.init.length c1, .slice a2 t.goal.length c2, .slice none 0 0] 0 Wb
 rw [← hwy] at K
 refine ⟨by rw [hwy]; exact HX.setAll (by rw [hold]; rfl), by rw [hwy]; exact below_sets _ _ _ HB hX, own_intk2 (own_kb1 o0 K n0) (by omega) (fun g hg h => h.elim (n0 g hg) (fun h => by have := (o0.lt g hg).1; omega)), own_intk2 (own_kb1 o1 K n1) (by omega) (fun g hg h => h.elim (n1 g hg) (fun h => by have := (o1.lt g hg).1; omega)), own_fac2 (own_kb1 o2 K n2) (by omega) (fun g hg h => h.elim (n2 g hg) (fun h => by have := (o2.lt g hg).1; omega))⟩

/-- The preconditions' slices do not pass their capacities: of a row of operators. -/
def CapX (xs : List Value) : Prop := ∀ (k : Nat) (A : Option Addr) (n c : Nat), xs[k * 4 + 2]? = some (.slice A n c) → n ≤ c
theorem capX_nil : CapX [] := fun k A n c h => by simp at h
theorem capX_push {xs : List Value} {m : Nat} (h : CapX xs) (hl : xs.length = m * 4) {a b d : Value} {A : Option Addr} {n c : Nat} (hc : n ≤ c) : CapX (xs ++ [a, b, .slice A n c, d]) := fun k A' n' c' hk => by
 by_cases h1 : k * 4 + 2 < xs.length
 ·rw [List.getElem?_append_left h1] at hk; exact h k A' n' c' hk
 ·rw [List.getElem?_append_right (by omega)] at hk
  have h2 : k * 4 + 2 - xs.length < 4 := by
   have := (List.getElem?_eq_some_iff.1 hk).1; simpa using this
  have h3 : k = m := by omega
  subst h3
  have h4 : k * 4 + 2 - xs.length = 2 := by omega
  rw [h4] at hk
  simp at hk
  obtain ⟨_, rfl, rfl⟩ := hk
  exact hc
theorem own_cap' {w : World} {B n c k : Nat} {A : Option Addr} {e : TypeId} {xs : List Value} (h : w.ownsRow B e k (.slice A n c) n xs) : n ≤ c := by
 rcases h.2 with ⟨h1, h2⟩ | ⟨g, cap, cur, h1, _, _, h2, _⟩
 ·omega
 ·injection h1 with _ _ h3; omega
/-- .. of a task in memory. -/
def CapsAt (w : World) (p : Lies) (n : Nat) : Prop := ∀ b off, p.ao = some ⟨b, off, none⟩ → ∀ k, k < n → ∀ (A : Option Addr) (m c : Nat), w.cell? ⟨b, off + k * 4 + 2, none⟩ = some (.slice A m c) → m ≤ c
theorem caps_own {w : World} {B n : Nat} {e : TypeId} {p : Lies} {xs : List Value} (h : w.ownsRow B e 4 (.slice p.ao n p.co) n xs) (hc : CapX xs) (hl : xs.length = n * 4) : CapsAt w p n := fun b off hp k hk A m c hv => by
 rcases id h.2 with ⟨h1, _⟩ | ⟨g, cap, cur, h1, _⟩
 ·injection h1 with h1 _ _; rw [hp] at h1; cases h1
 ·rw [h1] at h
  injection h1 with h1 _ _
  rw [hp] at h1
  injection h1 with h1
  injection h1 with h1 h2 _
  subst h1 h2
  obtain ⟨u, hu⟩ : ∃ u, xs[k * 4 + 2]? = some u := ⟨_, List.getElem?_eq_getElem (by omega)⟩
  have := own_cell h hu
  rw [Nat.zero_add, this] at hv
  injection hv with hv
  subst hv
  exact hc k A m c hu
end

end Go.Proofs.YtlkebhiaimijiaaGreatDoor

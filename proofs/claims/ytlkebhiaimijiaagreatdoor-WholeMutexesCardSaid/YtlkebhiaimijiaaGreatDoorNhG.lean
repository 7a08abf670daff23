/- Texts laid together: VhS, VhT. -/
import Derived.Test.YtlkebhiaimijiaaGreatDoorBel
import Derived.Test.YtlkebhiaimijiaaGreatDoorNgE
import Derived.Test.YtlkebhiaimijiaaGreatDoorVhR
import Derived.Test.YtlkebhiaimijiaaGreatDoorNhF
import Derived.Test.YtlkebhiaimijiaaGreatDoorVhK
import Derived.Test.YtlkebhiaimijiaaGreatDoorKp
import Derived.Deep.LoopGhost
import Derived.Deep.CutBlock
namespace Go.Proofs.YtlkebhiaimijiaaGreatDoor
set_option linter.unusedSimpArgs false
set_option linter.unusedVariables false
section
open Go Go.RowKit Go.Maps
set_option linter.unusedVariables false

def frT (vars : List Int) (i : Nat) : List Int := (List.range i).map fun v => frS vars v
theorem frT_len (vars : List Int) (i : Nat) : (frT vars i).length = i := by unfold frT; simp
theorem frT_succ (vars : List Int) (i : Nat) : frT vars (i + 1) = frT vars i ++ [frS vars i] := by unfold frT; rw [List.range_succ, List.map_append]; rfl
theorem frT_all (vars : List Int) : frT vars vars.length = frL vars := rfl
/-- The box of a table. -/
def TbC (t : Tsk) (p : Lies) (F R : Value) : Array Value := #[.slice p.av t.vars.length p.cv, .slice p.ai t.init.length p.ci, .slice p.ag t.goal.length p.cg, .slice p.ao t.ops.length p.co, F, R]
/-- The first numbers under way. -/
structure FrI (w2 : World) (t : Tsk) (p : Lies) (X i : Nat) (FA : Option Addr) (FC : Nat) (wr : World) : Prop where
 bel : Below w2.heap.size w2 wr
 box : BxI wr X 73 (TbC t p (.slice FA i FC) (.slice none 0 0))
 own : wr.ownsRow (X + 1) 3 1 (.slice FA i FC) i (ic (frT t.vars i))
section
variable {w2 wr w1 w9 wy : World} {t : Tsk} {p : Lies} {X i FC FC' : Nat} {FA FA' : Option Addr}
theorem FrI.step (h : FrI w2 t p X i FA FC wr) (hX : w2.heap.size ≤ X) (hu : Below wr.heap.size wr w1) (ho : w9.ownsRow (X + 1) 3 1 (.slice FA' (i + 1) FC') (i + 1) (ic (frT t.vars i) ++ [.int .i64 (frS t.vars i)]))
  (hg : w1.grownBy w9 (Value.slice FA i FC).ownBlock) (hwy : wy = w9.setCell ⟨X, 4, none⟩ (.slice FA' (i + 1) FC')) : FrI w2 t p X (i + 1) FA' FC' wy := by
 have hz := h.bel.size
 have hb1 := h.bel.trans (hu.mono hz)
 have hb9 : Below w2.heap.size w2 w9 := hb1.grown hg hb1.size (fun b hb => by have := (h.own.lt b hb).1; omega)
 subst hwy
 refine ⟨hb9.setCell hX _, ?_, ?_⟩
 ·have h1 := ((h.box.up hu).grown hg (fun e => by have := (h.own.lt X e.symm).1; omega)).set 4 (.slice FA' (i + 1) FC')
  exact h1
 ·rw [frT_succ, ← ic_push]
  exact own_set' ho (fun e => by have := (ho.lt X e).1; omega)
end
/-- Slices of rows. -/
def bsC (rb : Nat → Nat) (F n : Nat) : List Value := (List.range n).map fun k => .slice (some ⟨rb k, 0, none⟩) F F
theorem bsC_succ (rb : Nat → Nat) (F n : Nat) : bsC rb F (n + 1) = bsC rb F n ++ [.slice (some ⟨rb n, 0, none⟩) F F] := by unfold bsC; rw [List.range_succ, List.map_append]; rfl
theorem bsC_get (rb : Nat → Nat) (F n k : Nat) (h : k < n) : (bsC rb F n)[k]? = some (.slice (some ⟨rb k, 0, none⟩) F F) := by unfold bsC; simp [h]
theorem bsC_congr {rb rb' : Nat → Nat} {F n : Nat} (h : ∀ k, k < n → rb k = rb' k) : bsC rb F n = bsC rb' F n := by
 unfold bsC
 refine List.map_congr_left fun k hk => ?_
 rw [h k (List.mem_range.1 hk)]
/-- The rows under way. -/
structure MgI (wL : World) (t : Tsk) (p : Lies) (X F n : Nat) (FA : Option Addr) (FC j : Nat) (RA : Option Addr) (RC : Nat) (rb : Nat → Nat) (wr : World) : Prop where
 kb : Kb (fun b => b = X) wL wr
 box : BxI wr X 73 (TbC t p (.slice FA n FC) (.slice RA j RC))
 own : wr.ownsRow wL.heap.size 74 1 (.slice RA j RC) j (bsC rb F j)
 ge : ∀ k, k < j → wL.heap.size ≤ rb k
 row : ∀ k, k < j → wr.rowIs (rb k) 4 F fun _ => .bool false
 inj : ∀ a b, a < j → b < j → rb a = rb b → a = b
section
variable {wL wr w1 w9 wy : World} {t : Tsk} {p : Lies} {X F n FC j RC RC' : Nat} {FA RA RA' : Option Addr} {rb : Nat → Nat}
theorem row_ne_own {w : World} {B s m q : Nat} {e T : TypeId} {v : Value} {xs : List Value} {L : Nat} {f : Nat → Value} (h : w.ownsRow B e s v m xs) (hr : w.rowIs q T L f) (hne : e ≠ T) : v.ownBlock ≠ some q := fun hv => by
 obtain ⟨cur, hc⟩ := own_blk h hv
 obtain ⟨cs, h1, _⟩ := hr
 rw [hc] at h1
 injection h1 with h1
 injection h1 with _ h1 _
 exact hne h1
theorem MgI.step (h : MgI wL t p X F n FA FC j RA RC rb wr) (hX : X < wL.heap.size) (hw1 : w1 = (wr.alloc (.cells (madeCells #[.bool false] F) 4)).alloc (.cells #[.slice (some ⟨wr.heap.size, 0, none⟩) F F] 74))
  (ho : w9.ownsRow wL.heap.size 74 1 (.slice RA' (j + 1) RC') (j + 1) (bsC rb F j ++ [.slice (some ⟨wr.heap.size, 0, none⟩) F F])) (hg : w1.grownBy w9 (Value.slice RA j RC).ownBlock) (hwy : wy = w9.setCell ⟨X, 5, none⟩ (.slice RA' (j + 1) RC')) :
  MgI wL t p X F n FA FC (j + 1) RA' RC' (fun k => if k = j then wr.heap.size else rb k) wy := by
 have hz := h.kb.size
 have hu : Below wr.heap.size wr w1 := by rw [hw1]; exact ((Below.refl _ _).alloc (Nat.le_refl _) _).alloc (by simp) _
 have hnew : w1.rowIs wr.heap.size 4 F fun _ => .bool false := by
  rw [hw1]
  exact (World.rowIs_made wr (.bool false) F 4).alloc _
 have hlt : ∀ k, k < j → rb k < wr.heap.size := fun k hk => (h.row k hk).lt
 have hown : w1.ownsRow wL.heap.size 74 1 (.slice RA j RC) j (bsC rb F j) := own_below h.own hu
 have keepR : ∀ q (f : Nat → Value), w1.rowIs q 4 F f → wL.heap.size ≤ q → wy.rowIs q 4 F f := fun q f hq hge => by
  have h9 : w9.rowIs q 4 F f := row_grown hq hg (fun e => row_ne_own hown hq (by decide) e.symm)
  rw [hwy]
  exact h9.setOther (by show q ≠ X; omega) _
 refine ⟨?_, ?_, ?_, fun k hk => ?_, fun k hk => ?_, fun a b ha hb e => ?_⟩
 ·rw [hwy]
  exact ((h.kb.up hu).grown hg (fun k e => .inr (h.own.lt k e).1)).set (p := ⟨X, 5, none⟩) (.inl rfl) _
 ·rw [hwy]
  have h1 := ((h.box.up hu).grown hg (fun e => by have := (h.own.lt X e.symm).1; omega)).set 5 (.slice RA' (j + 1) RC')
  exact h1
 ·have e1 : bsC (fun k => if k = j then wr.heap.size else rb k) F (j + 1) = bsC rb F j ++ [.slice (some ⟨wr.heap.size, 0, none⟩) F F] := by
   rw [bsC_succ, if_pos rfl, bsC_congr (rb' := rb) (fun k hk => if_neg (by omega))]
  rw [e1, hwy]
  exact own_set' ho (fun e => by have := (ho.lt X e).1; omega)
 ·split
  ·omega
  ·exact h.ge k (by omega)
 ·split
  ·exact keepR _ _ hnew (by omega)
  ·exact keepR _ _ (row_up (h.row k (by omega)) hu) (h.ge k (by omega))
 ·split at e <;> split at e
  ·omega
  ·have := hlt b (by omega); omega
  ·have := hlt a (by omega); omega
  ·exact h.inj a b (by omega) (by omega) e
theorem MgI.drew (h : MgI wL t p X F n FA FC j RA RC rb wr) : MgI wL t p X F n FA FC j RA RC rb wr.drew := ⟨h.kb.drew, h.box, h.own, h.ge, h.row, h.inj⟩
theorem MgI.start (w : World) (hb : BxI w X 73 (TbC t p (.slice FA n FC) (.slice none 0 0))) : MgI w t p X F n FA FC 0 none 0 (fun _ => 0) w := ⟨Kb.refl _ _, hb, World.ownsRow_nil _ _ _ _, fun k hk => by omega, fun k hk => by omega, fun a b ha => by omega⟩
theorem MgI.done (h : MgI wL t p X F n FA FC F RA RC rb wr) (h0 : 0 < F) : ∃ g, RA = some ⟨g, 0, none⟩ ∧ wL.heap.size ≤ g ∧ MatIs wr g F rb (fun _ => F) (fun _ _ => false) := by
 rcases id h.own.2 with ⟨_, h1⟩ | ⟨g, cap, cur, h1, hB, hg, _⟩
 ·omega
 ·simp only [Value.slice.injEq] at h1
  obtain ⟨rfl, _, rfl⟩ := h1
  have hgl : g < wr.heap.size := (Array.getElem?_eq_some_iff.1 hg).1
  exact ⟨g, rfl, hB, hgl, fun j hj => own_cell h.own (bsC_get rb F F j hj), h.row, h.inj, fun j hj e => row_ne_own h.own (h.row j hj) (by decide) (by rw [e]; rfl)⟩
end
/-- The rest of a table's parts, kept. -/
theorem fst_at {wL wr : World} {t : Tsk} {X FC : Nat} {FA : Option Addr} (ho : wL.ownsRow (X + 1) 3 1 (.slice FA t.vars.length FC) t.vars.length (ic (frT t.vars t.vars.length))) (hn : t.vars.length ≤ 1000) (k : Kb (fun b => b = X) wL wr) : IntsAt wr wL.heap.size FA (frL t.vars) := by
 rw [frT_all] at ho
 refine ⟨by rw [frL_len]; omega, fun h0 => ?_⟩
 rw [frL_len] at h0
 obtain ⟨g, rfl, h1, h2, _⟩ := own_frozen' ho h0
 refine ⟨g, 0, rfl, h2, fun j hj => ?_⟩
 rw [Nat.zero_add]
 exact (k.cell (p := ⟨g, j, none⟩) h2 (by show ¬ g = X; omega)).trans (own_cell ho (ic_get hj))
theorem nF_pos {vars : List Int} (hd : ∀ k, k < vars.length → 1 ≤ nth vars k ∧ nth vars k ≤ 64) (h : 0 < vars.length) : 0 < nF vars := by
 have h1 := frS_mono (fun k hk => by have := hd k hk; omega) vars.length 1 (by omega) (Nat.le_refl _)
 have h2 := hd 0 h
 have e : frS vars 1 = 0 + nth vars 0 := rfl
 unfold nF; omega
theorem MgI.tbl {w2 wL wr : World} {t : Tsk} {p : Lies} {X FC RC : Nat} {FA RA : Option Addr} {rb : Nat → Nat} (h : MgI wL t p X (nF t.vars) t.vars.length FA FC (nF t.vars) RA RC rb wr) (hX2 : w2.heap.size ≤ X) (hXL : X < wL.heap.size) (hbel : Below w2.heap.size w2 wL) (htask : TaskAt w2 w2.heap.size t p)
  (ho : wL.ownsRow (X + 1) 3 1 (.slice FA t.vars.length FC) t.vars.length (ic (frT t.vars t.vars.length))) (hn : t.vars.length ≤ 1000) :
  ∃ g, TblAt wr wL.heap.size X t p FA FC RA RC g rb (fun _ _ => false) ∧ Below w2.heap.size w2 wr := by
 obtain ⟨g, hg⟩ : ∃ g, 0 < nF t.vars → RA = some ⟨g, 0, none⟩ ∧ wL.heap.size ≤ g ∧ MatIs wr g (nF t.vars) rb (fun _ => nF t.vars) (fun _ _ => false) := by
  by_cases h0 : 0 < nF t.vars
  ·obtain ⟨g, h1⟩ := h.done h0
   exact ⟨g, fun _ => h1⟩
  ·exact ⟨0, fun h => absurd h h0⟩
 have hb2 : Below w2.heap.size w2 wr := hbel.trans (h.kb.below (fun b hb e => by have e : b = X := e; omega) hbel.size)
 exact ⟨g, ⟨h.box, (htask.below hb2).keep (fun _ _ => rfl) (by omega), fst_at ho hn h.kb, hXL, h.kb.size, fun h0 => ⟨(hg h0).1, (hg h0).2.1, h.ge, (hg h0).2.2⟩⟩, hb2⟩
theorem CapsAt.below {w w' : World} {p : Lies} {t : Tsk} (h : CapsAt w p t.ops.length) (ht : TaskAt w w.heap.size t p) (k : Below w.heap.size w w') : CapsAt w' p t.ops.length := fun b off e i hi A m c hc => by
 obtain ⟨b2, o2, e2, hb, _⟩ := ht.ops.2 (by omega)
 rw [e] at e2
 injection e2 with e2
 injection e2 with e2 _ _
 subst e2
 exact h b off e i hi A m c ((k.cell (p := ⟨b, _, none⟩) hb).symm.trans hc)
theorem ini_all {t : Tsk} {R : Fct → Fct → Bool} (hn : t.init.length = t.vars.length) (h : ∀ v u : Nat, v < t.init.length → u < t.init.length → R ((v : Int), nth t.init v) ((u : Int), nth t.init u) = true) : IniD t R := fun a b ha hb e1 e2 => by
 have h0 := h a.1.toNat b.1.toNat (by have := ha.1; have := ha.2.1; omega) (by have := hb.1; have := hb.2.1; omega)
 rw [e1, e2] at h0
 have f1 : ((a.1.toNat : Nat) : Int) = a.1 := by have := ha.1; omega
 have f2 : ((b.1.toNat : Nat) : Int) = b.1 := by have := hb.1; omega
 rw [f1, f2] at h0
 exact h0
theorem ini_isf {t : Tsk} (hi : stB t.vars t.init = true) {v : Nat} (hv : v < t.init.length) : IsF t.vars ((v : Int), nth t.init v) := by
 have hn := stB_len hi
 have h : StP t.vars t.init := by unfold stB at hi; simpa using hi
 have h2 := h.2 v (by omega)
 refine ⟨by show (0 : Int) ≤ v; omega, by show (v : Int) < _; omega, h2.1, ?_⟩
 show nth t.init v < nth t.vars ((v : Int)).toNat
 rw [show ((v : Int)).toNat = v by omega]
 exact h2.2
theorem msl_none (t : Tsk) : MSl t (rF t.vars fun _ _ => false) := ⟨fun _ _ _ _ => rfl, fun _ _ _ _ _ _ h => by cases h⟩
/-- A table that stays below every closed one. -/
structure TbI (w2 : World) (t : Tsk) (p : Lies) (B X : Nat) (FA : Option Addr) (FC : Nat) (RA : Option Addr) (RC g : Nat) (rb : Nat → Nat) (M : Nat → Nat → Bool) (wr : World) : Prop where
 tbl : TblAt wr B X t p FA FC RA RC g rb M
 sl : MSl t (rF t.vars M)
 bel : Below w2.heap.size w2 wr
 le : w2.heap.size ≤ B
section
variable {w2 wr w1 : World} {t : Tsk} {p : Lies} {B X FC RC g C : Nat} {FA RA : Option Addr} {rb : Nat → Nat} {M : Nat → Nat → Bool} {a b : Fct}
theorem TbI.up (h : TbI w2 t p B X FA FC RA RC g rb M wr) (k : Below wr.heap.size wr w1) : TbI w2 t p B X FA FC RA RC g rb M w1 := ⟨h.tbl.up k, h.sl, h.bel.trans (k.mono h.bel.size), h.le⟩
theorem TbI.kb (h : TbI w2 t p B X FA FC RA RC g rb M wr) {bad : Nat → Prop} (k : Kb bad wr w1) (hb : ∀ b, bad b → C ≤ b) (l : TLow B C g rb (nF t.vars)) : TbI w2 t p B X FA FC RA RC g rb M w1 :=
 ⟨h.tbl.kb k hb l, h.sl, h.bel.trans (k.below (fun b hb1 hh => by have := hb b hh; have := l.le; have := h.le; omega) h.bel.size), h.le⟩
theorem TbI.rows (h : TbI w2 t p B X FA FC RA RC g rb M wr) (h0 : 0 < nF t.vars) {q : Nat} (hq : RowB (nF t.vars) rb q) : B ≤ q := by
 obtain ⟨j, hj, rfl⟩ := hq
 exact (h.tbl.mat h0).2.2.1 j hj
theorem TbI.sets (h : TbI w2 t p B X FA FC RA RC g rb M wr) (h0 : 0 < nF t.vars) (ht : TblAt w1 B X t p FA FC RA RC g rb (stM M (numF t.vars a) (numF t.vars b))) (k : Kb (RowB (nF t.vars) rb) wr w1) (hs : MSl t (rF t.vars (stM M (numF t.vars a) (numF t.vars b)))) :
  TbI w2 t p B X FA FC RA RC g rb (stM M (numF t.vars a) (numF t.vars b)) w1 :=
 ⟨ht, hs, h.bel.trans (k.below (fun q hq hh => by have := h.rows h0 hh; have := h.le; omega) h.bel.size), h.le⟩
end
/-- Pairs of the first state that are noted. -/
def InD (t : Tsk) (M : Nat → Nat → Bool) (i j : Nat) : Prop := ∀ v u : Nat, (v < i ∨ (v = i ∧ u < j)) → v < t.init.length → u < t.init.length → rF t.vars M ((v : Int), nth t.init v) ((u : Int), nth t.init u) = true
theorem InD.step {t : Tsk} {M : Nat → Nat → Bool} {i j : Nat} (h : InD t M i j) (hd : ∀ k, k < t.vars.length → 0 ≤ nth t.vars k) (hi : stB t.vars t.init = true) (h1 : i < t.init.length) (h2 : j < t.init.length) :
  InD t (stM M (numF t.vars ((i : Int), nth t.init i)) (numF t.vars ((j : Int), nth t.init j))) i (j + 1) := fun v u hvu hv hu => by
 rw [rF_st hd (ini_isf hi h1) (ini_isf hi h2) (ini_isf hi hv) (ini_isf hi hu)]
 by_cases e : v = i ∧ u = j
 ·obtain ⟨rfl, rfl⟩ := e
  exact .inr (.inl ⟨rfl, rfl⟩)
 ·exact .inr (.inr (h v u (by omega) hv hu))
theorem InD.next {t : Tsk} {M : Nat → Nat → Bool} {i : Nat} (h : InD t M i t.init.length) : InD t M (i + 1) 0 := fun v u hvu hv hu => h v u (by omega) hv hu
theorem InD.all {t : Tsk} {M : Nat → Nat → Bool} (h : InD t M t.init.length 0) (hn : t.init.length = t.vars.length) : IniD t (rF t.vars M) := ini_all hn fun v u hv hu => h v u (.inl hv) hv hu
theorem ini_closed {t : Tsk} (hi : stB t.vars t.init = true) {i j : Nat} (h1 : i < t.init.length) (h2 : j < t.init.length) (R' : Fct → Fct → Bool) (h : MutOk t R') : R' ((i : Int), nth t.init i) ((j : Int), nth t.init j) = true :=
 h.init _ _ (ini_isf hi h1) (ini_isf hi h2) (by show nth t.init ((i : Int)).toNat = _; rw [show ((i : Int)).toNat = i by omega]) (by show nth t.init ((j : Int)).toNat = _; rw [show ((j : Int)).toNat = j by omega])
theorem caus_start {w : World} {C : Nat} {t : Tsk} (hC : C ≤ w.heap.size) : CausAt (w.alloc (.map #[] 0)) w.heap.size C t :=
 ⟨hC, #[], 0, heap_alloc_new _ _, ctab_nil, fun x hx => by cases hx⟩
theorem tlow_of {w : World} {B X fc rc g : Nat} {t : Tsk} {p : Lies} {fa ra : Option Addr} {rb : Nat → Nat} {M : Nat → Nat → Bool} (h : TblAt w B X t p fa fc ra rc g rb M) : TLow B w.heap.size g rb (nF t.vars) :=
 ⟨h.le, fun h0 => (h.mat h0).2.2.2.glt, fun j hj => (h.mat (by omega)).2.2.2.rlt hj⟩
theorem hls_getD {hs : List Hd} {i : Nat} (h : i < hs.length) : (hls hs).getD i [] = (hd hs i).l := hls_hd h
end

section
open Go Go.RowKit Go.Maps
set_option linter.unusedVariables false

/-- What New returns. -/
def NewRet (t : Tsk) (w : World) (e : Ending) (w' : World) : Prop :=
 ∃ (B X : Nat) (p : Lies) (fa : Option Addr) (fc : Nat) (ra : Option Addr) (rc g : Nat) (rb : Nat → Nat) (M : Nat → Nat → Bool), e = .returned (.tuple #[.pointer (some ⟨X, 0, none⟩), .nilIface]) ∧ TblAt w' B X t p fa fc ra rc g rb M ∧ CapsAt w' p t.ops.length ∧ MLst t (rF t.vars M) ∧ ∀ W, Kb (fun b => b < w.heap.size) w' W → TaskAt W W.heap.size t p

set_option maxRecDepth 20000 in
set_option maxHeartbeats 64000000 in
theorem new_any (t : Tsk) (p0 : Lies) (w : World) (ht : TaskAt w w.heap.size t p0) (hck : chkC t = 0) (hnp : npV t.vars ≤ 1024) (hF : frS t.vars t.vars.length ≤ 512) :
  Calls Tryz.prog 9 #[TaskV t p0] w fun e w' => NewRet t w e w' ∧ Below w.heap.size w w' := by
 obtain ⟨pav, pai, pag, pao, pcv, pci, pcg, pco⟩ := p0
 have hr := right_of hck
 have HR := Lib.hid hr
 have HT := Lib.hid ht
 have HD := Lib.hid hr.dom
 have hn := hr.nv
 have hin : t.init.length = t.vars.length := stB_len hr.init
 have HIN := Lib.hid hin
 obtain ⟨n, hnn⟩ : ∃ n, n = t.vars.length := ⟨_, rfl⟩
 have HNN := Lib.hid hnn
 have hno := hr.no
 obtain ⟨W0, hW0⟩ : ∃ W0, W0 = w.alloc (.cells #[.slice pav t.vars.length pcv, .slice pai t.init.length pci, .slice pag t.goal.length pcg, .slice pao t.ops.length pco] 26) := ⟨_, rfl⟩
 have HB0 := Lib.hid (show Below w.heap.size w W0 by rw [hW0]; exact (Below.refl _ _).alloc (Nat.le_refl _) _)
 have HX0 := Lib.hid (show BxI W0 w.heap.size 26 #[.slice pav t.vars.length pcv, .slice pai t.init.length pci, .slice pag t.goal.length pcg, .slice pao t.ops.length pco] by rw [hW0]; exact BxI.new _ _ _)
 have K1 := Lib.hid (tcheck_any t ⟨pav, pai, pag, pao, pcv, pci, pcg, pco⟩ W0 (ht.up HB0.out))
 rw [hck, erV_0] at K1
 have K2 := Lib.hid (fun (W : World) (k : Below w.heap.size w W) => mcopied_any t ⟨pav, pai, pag, pao, pcv, pci, pcg, pco⟩ W (ht.up k) hr)
 have hFb : (nF t.vars : Int) = frS t.vars t.vars.length := by
  have := frS_nn (fun k hk => by have := hr.dom k hk; omega) (Nat.le_refl t.vars.length)
  unfold nF; omega
 have HFB := Lib.hid hFb
 have hF5 : nF t.vars ≤ 512 := by omega
 obtain ⟨inf, hinf, iz0, iz1, iz2⟩ := info_parts qinfI
 have HCK := Lib.hid hck
 clear ht hr hck hin hnn hFb hF
 go_enter Tryz.func9, Tryz.ntmps9
 unfold TaskV at K1 K2 ⊢
 go_wp2_with fail
 rw [← hW0]
 have HW0 := Lib.hid hW0
 clear hW0
 refine K1.out.mono ?_
 rintro e w1 ⟨rfl, hb1⟩
 have HB1 := Lib.hid (HB0.out.trans (hb1.mono HB0.out.size))
 have HX1 := Lib.hid (HX0.out.up hb1)
 clear hb1 K1
 have x0 := HX1.out.cell 0 (.slice pav t.vars.length pcv) rfl
 have x1 := HX1.out.cell 1 (.slice pai t.init.length pci) rfl
 have x2 := HX1.out.cell 2 (.slice pag t.goal.length pcg) rfl
 have x3 := HX1.out.cell 3 (.slice pao t.ops.length pco) rfl
 have hXl1 := HX1.out.lt
 have K2 := Lib.hid (K2.out w1 HB1.out)
 go_wp2_with fail
 refine K2.out.mono ?_
 rintro e w2 ⟨⟨p', rfl, htc⟩, hb2⟩
 have HTC := Lib.hid (htc w2 (Kb.refl _ _))
 have HTR := Lib.hid htc
 have h01 := HB1.out.size
 have HB2 := Lib.hid (HB1.out.trans (hb2.mono HB1.out.size))
 have HX2 := Lib.hid (HX1.out.up hb2)
 obtain ⟨qav, qai, qag, qao, qcv, qci, qcg, qco⟩ := p'
 obtain ⟨X, hX⟩ : ∃ X, X = w2.heap.size := ⟨_, rfl⟩
 obtain ⟨W3, hW3⟩ : ∃ W3, W3 = w2.alloc (.cells (TbC t ⟨qav, qai, qag, qao, qcv, qci, qcg, qco⟩ (.slice none 0 0) (.slice none 0 0)) 73) := ⟨_, rfl⟩
 have HI3 := Lib.hid (show FrI w2 t ⟨qav, qai, qag, qao, qcv, qci, qcg, qco⟩ X 0 none 0 W3 from ⟨by rw [hW3]; exact (Below.refl _ _).alloc (Nat.le_refl _) _, by rw [hW3, hX]; exact BxI.new _ _ _, World.ownsRow_nil _ _ _ _⟩)
 have hz3 : W3.heap.size = w2.heap.size + 1 := by rw [hW3]; simp
 clear htc hb2 K2 x0 x1 x2 x3
 have hXw : w.heap.size < w2.heap.size := HX2.out.lt
 have x0 := HX2.out.cell 0 (.slice pav t.vars.length pcv) rfl
 unfold TbC at hW3
 go_wp2_with fail
 rw [← hW3, ← hX]
 have hXe := Lib.hid hX
 have HW3 := Lib.hid hW3
 have hXge : w2.heap.size ≤ X := by omega
 have hXw2 : w.heap.size < X := by omega
 have h2w : w.heap.size ≤ w2.heap.size := by omega
 clear hW3 x0 hX hz3
 go_loopw [6, 31] (fun v6 v31 wr => ∃ (i : Nat) (FA : Option Addr) (FC : Nat), v6 = .int .i64 (frS t.vars i) ∧ v31 = .int .i64 i ∧ i ≤ t.vars.length ∧ Hid (FrI w2 t ⟨qav, qai, qag, qao, qcv, qci, qcg, qco⟩ X i FA FC wr)) (fun _ v31 _ => t.vars.length - (intOf v31).toNat)
 case atStart => exact ⟨0, none, 0, rfl, rfl, by omega, HI3⟩
 case round =>
  clear HI3
  obtain ⟨i, FA, FC, rfl, rfl, hi, HI⟩ := hrel
  obtain ⟨wt, rfl⟩ : ∃ wt : World, wt = wr := ⟨_, rfl⟩
  have hwt := HI.out.bel.size
  have hbx := HI.out.box
  have hXl := hbx.lt
  by_cases hlt : i < t.vars.length
  ·have hdi := HD.out i hlt
   have hbw := HB2.out.trans (HI.out.bel.mono h2w)
   obtain ⟨vb, vo, ea, hvb, hvc⟩ := HT.out.vars.at_ hlt
   dsimp only at ea
   subst ea
   have d1 := (hbw.cell (p := ⟨vb, _, none⟩) hvb).trans (hvc i hlt)
   have hvl : vb < wt.heap.size := by omega
   have b4 := hbx.cell 4 (.slice FA i FC) rfl
   obtain ⟨f, hf⟩ : ∃ f, f = frS t.vars i := ⟨_, rfl⟩
   obtain ⟨m, hm⟩ : ∃ m, m = nth t.vars i := ⟨_, rfl⟩
   have hfb := frS_le HD.out i (by omega)
   have hfn := frS_nn (fun k hk => by have := HD.out k hk; omega) (show i ≤ t.vars.length by omega)
   rw [← hf] at hfb hfn
   rw [← hm] at d1 hdi
   have hwr : IntKind.i64.wrap (f + m) = f + m := IntWalk.i64_in _ (by omega)
   have HFM := Lib.hid (show f + m = frS t.vars (i + 1) by rw [hf, hm]; rfl)
   have HF := Lib.hid hf
   have HBX := Lib.hid hbx
   have HOW := Lib.hid HI.out.own
   rw [← hf]
   clear hvc hbw hbx hf hm
   go_wp2_with (first
    | (at_builtin; refine wpList_append_src (by rfl) _ _ 22 (by rfl) (X + 1) 3 inf (.int .i64 0) 1 8 qundI hinf iz0 iz1 iz2 rfl (by decide) (.slice FA i FC) i (ic (frT t.vars i)) (by rfl) (by exact HOW.out.alloc _) (some ⟨wt.heap.size, 0, none⟩) 1 1 [.int .i64 f] (by rfl) (src_of (heap_alloc_new wt _) rfl (by intro u hu; simp at hu; subst hu; rfl)) (by unfold maxLen; omega) (by omega) (by first | omega | (simp; done) | (simp; omega)) ?_; intro v9 w9 hown9 hgrow9 hat9; obtain ⟨A9, c9, rfl⟩ := own_shape hown9; have HO9 := Lib.hid hown9; have HG9 := Lib.hid hgrow9; have HBX9 := Lib.hid ((HBX.out.up (show Below wt.heap.size wt _ by exact bel)).grown hgrow9 (fun e => by have := (HOW.out.lt X e.symm).1; omega)); clear hown9 hgrow9 hat9)
    | (refine wpList_store1 (by rfl) 22 _ _ (by rfl) X 4 (.slice A9 (i + 1) c9) (by rfl) (by rfl) (by rfl) (there_blk HBX9.out (by simp [TbC])) (by kernel_rfl) rfl ?_; intro wy HWY))
   have HN := Lib.hid (HI.out.step (w9 := w9) (wy := wy) hXge ((Below.refl _ _).alloc (Nat.le_refl _) _) (by rw [← HF.out]; exact HO9.out) HG9.out HWY.out)
   go_roundw
   case rel => exact ⟨i + 1, A9, c9, by rw [HFM.out], by go_num, by omega, HN⟩
   case measure => simp [intOf]; omega
  ·have hiv : i = t.vars.length := by omega
   have hfe : frS t.vars i = (nF t.vars : Int) := by rw [hiv]; exact HFB.out.symm
   have HF0 := Lib.hid (fun (h : 0 < t.vars.length) => nF_pos HD.out h)
   rw [hfe]
   obtain ⟨F, hFe⟩ : ∃ F, F = nF t.vars := ⟨_, rfl⟩
   rw [← hFe] at hF5 ⊢
   have HFE := Lib.hid hFe
   have HMG0 := Lib.hid (MgI.start (F := F) wt hbx)
   have HIV := Lib.hid hiv
   have hgt : decide ((512 : Int) < F) = false := decide_eq_false (by omega)
   clear hiv hfe hFe hbx
   go_wp2_with fail
   clear hgt
   go_loopw [53] (fun v53 wr => ∃ (j : Nat) (RA : Option Addr) (RC : Nat) (rb : Nat → Nat), v53 = .int .i64 j ∧ j ≤ F ∧ Hid (MgI wt t ⟨qav, qai, qag, qao, qcv, qci, qcg, qco⟩ X F i FA FC j RA RC rb wr)) (fun v53 _ => F - (intOf v53).toNat)
   case atStart => exact ⟨0, none, 0, _, rfl, by omega, HMG0⟩
   case round =>
    clear HMG0
    obtain ⟨j, RA, RC, rb, rfl, hj, HMG⟩ := hrel
    obtain ⟨wu, rfl⟩ : ∃ wu : World, wu = wr := ⟨_, rfl⟩
    have hwu := HMG.out.kb.size
    have hXu := HMG.out.box.lt
    by_cases hltj : j < F
    ·have hmk := run_make_row' (P := Tryz.prog) 74 4 (.bool false) 1 undB infoB rfl .i64 .i64 F (by omega) (by omega)
     obtain ⟨ib, hib, ib0, ib1, ib2⟩ := info_parts infoBs
     have HSX := Lib.hid (show ∀ w', Below wu.heap.size wu w' → w'.cell? ⟨X, 5, none⟩ = some (.slice RA j RC) from fun w' k => (HMG.out.box.up k).cell 5 _ rfl)
     have HOW := Lib.hid HMG.out.own
     go_wp2_with fail
     refine wp_region_G 8 (fun w' => w'.cell? ⟨X, 5, none⟩ = some (.slice RA j RC)) (by kernel_rfl) (HSX.out wu.drew (by exact bel)) ?_
     intro hG0
     refine wpS1 0 hG0 ?_; intro hG1; clear hG0
     refine wpS1 1 hG1 ?_; intro hG2; clear hG1
     refine wpS1 2 hG2 ?_; intro hG3; clear hG2
     refine wpS1 3 hG3 ?_; intro hG4; clear hG3
     refine wpS2 4 hG4 ?_; intro hG5; clear hG4
     refine wpS1 5 hG5 ?_; intro hG6; clear hG5
     refine wpAnyG_ready (rs := [6]) (by kernel_rfl) (by simp) (AllG.cons rfl hG6 (fun K hK => ?_) AllG.nil)
     (go_simp)
     refine hK.out _ _ (Or.inr (HSX.out _ (by exact bel))) (fun hG7 => wpN ?_); clear hK hG6
     refine wpAnyG_ready (rs := [7]) (by kernel_rfl) (by simp) (AllG.cons rfl hG7 (fun K hK => ?_) AllG.nil)
     (go_simp)
     refine hK.out _ _ (Or.inr (HSX.out _ (by exact bel))) (fun hG8 => wpN ?_); clear hK hG7
     refine wpAnyG_ready (rs := [8]) (by kernel_rfl) (by simp) (AllG.cons rfl hG8 (fun K hK => ?_) AllG.nil)
     (refine step_append_src (by rfl) _ _ 71 (by rfl) wt.heap.size 74 ib (.slice none 0 0) 1 24 undBs hib ib0 ib1 ib2 rfl (by decide) (.slice RA j RC) j (bsC rb F j) (by rfl) (by exact (World.ownsRow.alloc (World.ownsRow.alloc (show wu.drew.ownsRow _ _ _ _ _ _ from HOW.out) _) _)) (some ⟨wu.heap.size + 1, 0, none⟩) 1 1 [.slice (some ⟨wu.heap.size, 0, none⟩) F F] (by rfl) (src_of (BxI.new2 wu.drew _ 74 _) rfl (by intro u hu; simp at hu; subst hu; rfl)) (by unfold maxLen; omega) (by omega) (by first | omega | (simp; done) | (simp; omega)) ?_; intro v9 w9 hown9 hgrow9 hat9; obtain ⟨A9, c9, rfl⟩ := own_shape hown9; have HO9 := Lib.hid hown9; have HG9 := Lib.hid hgrow9; have HBX9 := Lib.hid ((HMG.out.box.up (w' := (wu.drew.alloc (.cells (madeCells #[.bool false] F) 4)).alloc (.cells #[.slice (some ⟨wu.heap.size, 0, none⟩) F F] 74)) (by exact bel)).grown hgrow9 (fun e => by have := (HOW.out.lt X e.symm).1; omega)); clear hown9 hgrow9 hat9)
     refine hK.out _ _ (Or.inl rfl) (fun hG9 => wpN ?_); clear hK hG8
     refine wpS1 9 hG9 ?_; intro hG10; clear hG9
     refine wpS1 10 hG10 ?_; intro hG11; clear hG10
     refine wpAnyG_ready (rs := [11]) (by kernel_rfl) (by simp) (AllG.cons rfl hG11 (fun K hK => ?_) AllG.nil)
     (refine step_store1 (by rfl) 71 _ _ (by rfl) X 5 (.slice A9 (j + 1) c9) rfl (by rfl) (by rfl) (there_blk HBX9.out (by simp [TbC])) (by kernel_rfl) rfl ?_; intro wy HWY)
     refine hK.out _ _ (Or.inl rfl) (fun hG12 => wpN ?_); clear hK hG11
     refine wpAnyG_done (by kernel_rfl) ?_ _; clear hG12
     have HMN := Lib.hid (HMG.out.drew.step (w9 := w9) (wy := wy) (by have := HI.out.box.lt; omega) rfl HO9.out HG9.out HWY.out)
     go_wp2
     go_roundw
     case rel => exact ⟨j + 1, A9, c9, _, by go_num, by omega, HMN⟩
     case measure => simp [intOf]; omega
    ·have hiv := HIV.out
     have hjF : j = F := by omega
     have hFe := HFE.out
     subst hjF
     have hown := HI.out.own
     have hmg := HMG.out
     rw [hiv] at hown hmg
     subst hFe
     obtain ⟨g, htb, hbel⟩ := hmg.tbl hXge (by have := HI.out.box.lt; omega) HI.out.bel HTC.out.1 hown (by omega)
     have hn1 : (nF t.vars) ≤ 512 := hF5
     have HTI := Lib.hid (show TbI w2 t ⟨qav, qai, qag, qao, qcv, qci, qcg, qco⟩ wt.heap.size X FA FC RA RC g rb (fun _ _ => false) wu from ⟨htb, msl_none t, hbel, by have := HI.out.box.lt; omega⟩)
     obtain ⟨B, hB⟩ : ∃ B, B = wt.heap.size := ⟨_, rfl⟩
     rw [← hB] at HTI
     have HSX := Lib.hid (fun (W : World) (k : Below w2.heap.size w2 W) => And.intro ((HX2.out.low k hXw).cell 1 (.slice pai t.init.length pci) rfl) (HX2.out.low k hXw).lt)
     obtain ⟨x1, hX0l⟩ := HSX.out wu HTI.out.bel
     have HST := Lib.hid HR.out.init
     have hd0 : ∀ k, k < t.vars.length → 0 ≤ nth t.vars k := fun k hk => by have := HD.out k hk; omega
     have HD0 := Lib.hid hd0
     have HIN0 := Lib.hid (show InD t (fun _ _ => false) 0 0 from fun v u h => by omega)
     have hil : t.init.length ≤ 64 := by have := HIN.out; omega
     clear htb hbel hown hmg HMG hwu hXu hB HI hd0
     go_wp2_with fail
     clear x1
     go_loopw [70] (fun v70 wr => ∃ (i : Nat) (M : Nat → Nat → Bool), v70 = .int .i64 i ∧ i ≤ t.init.length ∧ Hid (TbI w2 t ⟨qav, qai, qag, qao, qcv, qci, qcg, qco⟩ B X FA FC RA RC g rb M wr) ∧ Hid (InD t M i 0)) (fun v70 _ => t.init.length - (intOf v70).toNat)
     case atStart => exact ⟨0, _, rfl, by omega, HTI, HIN0⟩
     case round =>
      clear HTI HIN0
      obtain ⟨i, M, rfl, hi, HTI, HND⟩ := hrel
      obtain ⟨wt, rfl⟩ : ∃ wt : World, wt = wr := ⟨_, rfl⟩
      have hbt := HTI.out.bel.size
      by_cases hlti : i < t.init.length
      ·obtain ⟨ib, io, ea, hib, hic⟩ := HT.out.init.at_ hlti
       dsimp only at ea
       subst ea
       have HIC := Lib.hid (show ∀ (W : World), Below w2.heap.size w2 W → ∀ k, k < t.init.length → W.cell? ⟨ib, io + k, none⟩ = some (.int .i64 (nth t.init k)) from fun W hW k hk => ((HB2.out.trans (hW.mono h2w)).cell (p := ⟨ib, _, none⟩) hib).trans (hic k hk))
       obtain ⟨x1, hX0l⟩ := HSX.out wt HTI.out.bel
       have c0 := HIC.out wt HTI.out.bel i hlti
       have hibl : ib < wt.heap.size := by omega
       have HND0 := Lib.hid (show InD t M i 0 from HND.out)
       obtain ⟨xi, hxi⟩ : ∃ xi, xi = nth t.init i := ⟨_, rfl⟩
       rw [← hxi] at c0
       have HXI := Lib.hid hxi
       clear hxi hic
       go_wp2_with fail
       clear x1 c0
       go_loopw [78] (fun v78 wr => ∃ (j : Nat) (M : Nat → Nat → Bool), v78 = .int .i64 j ∧ j ≤ t.init.length ∧ Hid (TbI w2 t ⟨qav, qai, qag, qao, qcv, qci, qcg, qco⟩ B X FA FC RA RC g rb M wr) ∧ Hid (InD t M i j)) (fun v78 _ => t.init.length - (intOf v78).toNat)
       case atStart => exact ⟨0, M, rfl, by omega, HTI, HND0⟩
       case round =>
        clear HTI HND0 HND hbt
        obtain ⟨j, M, rfl, hj, HTI, HND⟩ := hrel
        obtain ⟨wu, rfl⟩ : ∃ wu : World, wu = wr := ⟨_, rfl⟩
        have hbt := HTI.out.bel.size
        by_cases hltj : j < t.init.length
        ·have c0 := HIC.out wu HTI.out.bel j hltj
         have hibl : ib < wu.heap.size := by omega
         have KS := tset_any HD.out hn ((i : Int), nth t.init i) ((j : Int), nth t.init j) (ini_isf HST.out hlti) (ini_isf HST.out hltj) wu HTI.out.tbl
         have HN2 := Lib.hid (HND.out.step HD0.out HST.out hlti hltj)
         have HS2 := Lib.hid (msl_put HD0.out HTI.out.sl (ini_isf HST.out hlti) (ini_isf HST.out hltj) (ini_closed HST.out hlti hltj))
         obtain ⟨xj, hxj⟩ : ∃ xj, xj = nth t.init j := ⟨_, rfl⟩
         rw [← hxj] at c0
         dsimp only at KS
         rw [← HXI.out, ← hxj] at KS HN2 HS2
         have KS := Lib.hid KS
         clear hxj
         go_wp2_with fail
         refine KS.out.mono ?_
         rintro e w6 ⟨rfl, ht6, hk6⟩
         have HT6 := Lib.hid (HTI.out.sets (HF0.out (by have := HIN.out; omega)) ht6 hk6 HS2.out)
         clear ht6 hk6 KS c0
         go_wp2
         go_roundw
         case rel => exact ⟨j + 1, _, by go_num, by omega, HT6, HN2⟩
         case measure => simp [intOf]; omega
        ·have HNN2 := Lib.hid (show InD t M (i + 1) 0 from by
          have e : j = t.init.length := by omega
          have h := HND.out
          rw [e] at h
          exact h.next)
         go_wp2
         go_roundw
         case rel => exact ⟨i + 1, M, by go_num, by omega, HTI, HNN2⟩
         case measure => simp [intOf]; omega
      ·have HIA := Lib.hid (show IniD t (rF t.vars M) from by
        have e : i = t.init.length := by omega
        have h := HND.out
        rw [e] at h
        exact h.all HIN.out)
       have HTL := Lib.hid (tlow_of HTI.out.tbl)
       have hmm : (Instr.makeMap 76 none).run Tryz.prog wt = .ok (.map (some wt.heap.size)) (wt.alloc (.map #[] 0)) := rfl
       obtain ⟨C, hC⟩ : ∃ C, C = wt.heap.size := ⟨_, rfl⟩
       obtain ⟨W4, hW4⟩ : ∃ W4, W4 = wt.alloc (.map #[] 0) := ⟨_, rfl⟩
       have hb4 : Below wt.heap.size wt W4 := by rw [hW4]; exact (Below.refl _ _).alloc (Nat.le_refl _) _
       have HT4 := Lib.hid (HTI.out.up hb4)
       have HC4 := Lib.hid (show CausAt W4 C C t by rw [hW4, hC]; exact caus_start (Nat.le_refl _))
       rw [← hC] at HTL
       clear hb4 HTI HND
       go_wp2_with fail
       rw [← hW4, ← hC]
       have HW4 := Lib.hid hW4
       have HCC := Lib.hid hC
       clear hW4 hmm hC
       have HUP := Lib.hid (show (fcM (nF t.vars) M (nF t.vars)) + 1 ≤ fcM (nF t.vars) M (nF t.vars) + 1 from Nat.le_refl _)
       go_loopg [14] (fcM (nF t.vars) M (nF t.vars) + 1) (fun gg v14 wr => ∃ (ch : Bool) (M : Nat → Nat → Bool), v14 = .bool ch ∧ Hid (TbI w2 t ⟨qav, qai, qag, qao, qcv, qci, qcg, qco⟩ B X FA FC RA RC g rb M wr) ∧ Hid (CausAt wr C C t) ∧ Hid (IniD t (rF t.vars M)) ∧ Hid (ch = false → MLst t (rF t.vars M)) ∧ Hid (ch = true → fcM (nF t.vars) M (nF t.vars) + 1 ≤ gg))
       case atStart => exact ⟨true, M, rfl, HT4, HC4, HIA, Lib.hid (fun h => by cases h), Lib.hid (fun _ => Nat.le_refl _)⟩
       case round =>
        clear HT4 HC4 HIA HUP
        obtain ⟨ch, M, rfl, HTI, HCA, HIA, HML, HGG⟩ := hrel
        obtain ⟨wt, rfl⟩ : ∃ wt : World, wt = wr := ⟨_, rfl⟩
        have hbt := HTI.out.bel.size
        cases ch
        ·have HRT := Lib.hid (show NewRet t w (.returned (.tuple #[.pointer (some ⟨X, 0, none⟩), .nilIface])) wt ∧ Below w.heap.size w wt from ⟨⟨B, X, ⟨qav, qai, qag, qao, qcv, qci, qcg, qco⟩, FA, FC, RA, RC, g, rb, M, rfl, HTI.out.tbl, CapsAt.below HTC.out.2 HTC.out.1 HTI.out.bel, HML.out rfl, fun W k => (HTR.out W (((Kb.of_below (bad := fun _ => False) HTI.out.bel).mono (fun _ _ h => h.elim)).trans (k.mono (fun b _ h => Nat.lt_of_lt_of_le h h01)))).1⟩, HB2.out.trans (HTI.out.bel.mono h2w)⟩)
         go_wp2
         refine bodyPost_ret (v := .tuple #[.pointer (some ⟨X, 0, none⟩), .nilIface]) (by simp [results, Tryz.results9, go_sem]) rfl HRT.out
        ·have KO := Lib.hid (topen_any HD.out hn (by have h1 := faL_len (fun k hk => by have := HD.out k hk; omega) t.vars.length (Nat.le_refl _); have := HFB.out; omega) wt HTI.out.tbl)
         obtain ⟨gg0, hgg0⟩ : ∃ gg0, gg0 = fcM (nF t.vars) M (nF t.vars) := ⟨_, rfl⟩
         have hgk : gg0 + 1 ≤ gk := by rw [hgg0]; exact HGG.out rfl
         have HG0 := Lib.hid hgg0
         have hll : (faL t.vars t.vars.length).length ≤ 512 := by have h1 := faL_len (fun k hk => by have := HD.out k hk; omega) t.vars.length (Nat.le_refl _); have := HFB.out; omega
         clear hgg0 HGG HML
         go_wp2_with fail
         refine KO.out.mono ?_
         rintro e wq ⟨⟨A, c, hs, rfl, hop⟩, hbq⟩
         have HOP := Lib.hid (show ∀ p, p ∈ hls hs ↔ OpenS t.vars (rF t.vars M) p from fun p => by rw [hop.eq]; exact mem_opL)
         have hsl : hs.length ≤ 263000 := by
          have h1 : (hls hs).length = hs.length := by unfold hls; rw [List.length_map]
          rw [← h1, hop.eq]
          have h2 := opL_len (R := rF t.vars M) (l := faL t.vars t.vars.length)
          have h3 : (faL t.vars t.vars.length).length * (faL t.vars t.vars.length).length ≤ 512 * 512 := Nat.mul_le_mul hll hll
          omega
         have HRL := Lib.hid (show Rls wq (fun b => b < wt.heap.size) A hs from Orl.rls ⟨hop.gr.own, fun y hy => (hop.gr.fac y hy).sub (fun b _ hb => .inl hb)⟩ (by omega) (fun b off e hb => by
          subst e
          have := (hop.gr.own.lt b rfl).1
          omega))
         have HTQ := Lib.hid (HTI.out.up hbq)
         have HCQ := Lib.hid (HCA.out.up hbq)
         have HPS := Lib.hid (Pass.start (ps := hls hs) HTI.out.sl HIA.out)
         have hCt := HCA.out.lt
         clear hop hbq KO hll
         go_wp2_with fail
         go_loopw [98, 14] (fun v98 v14 wr => ∃ (i : Nat) (ch : Bool) (M' : Nat → Nat → Bool), v98 = .int .i64 i ∧ v14 = .bool ch ∧ i ≤ hs.length ∧ Hid (TbI w2 t ⟨qav, qai, qag, qao, qcv, qci, qcg, qco⟩ B X FA FC RA RC g rb M' wr) ∧ Hid (CausAt wr C C t) ∧ Hid (Pass t M M' ch (hls hs) i) ∧ Hid (Rls wr (fun b => b < wt.heap.size) A hs)) (fun v98 _ _ => hs.length - (intOf v98).toNat)
         case atStart => exact ⟨0, false, M, rfl, rfl, by omega, HTQ, HCQ, Lib.hid (by exact HPS.out), HRL⟩
         case round =>
          clear HTQ HCQ HPS HRL HTI HCA
          obtain ⟨i, ch, M', rfl, rfl, hi, HTI, HCA, HPS, HRL⟩ := hrel
          obtain ⟨wu, rfl⟩ : ∃ wu : World, wu = wr := ⟨_, rfl⟩
          have hbu := HTI.out.bel.size
          by_cases hlt3 : i < hs.length
          ·obtain ⟨ab, ao, rfl, hab, _, hac⟩ := HRL.out.at_ hlt3
           have c0 := hac i hlt3
           have hfac := HRL.out.fac hlt3
           have hmem : (hd hs i).l ∈ hls hs := mem_hls.2 ⟨i, hlt3, rfl⟩
           have hget := hls_getD hlt3
           obtain ⟨⟨ya, yc, yl⟩, hy⟩ : ∃ y : Hd, y = hd hs i := ⟨_, rfl⟩
           rw [← hy] at c0 hfac hmem hget
           dsimp only at c0 hfac hmem hget
           have HOY := Lib.hid ((HOP.out yl).1 hmem)
           have HGE := Lib.hid hget
           have HFY := Lib.hid (hfac.sub (bad' := fun b => b = C) (fun b _ e => by have e : b = C := e; show b < wt.heap.size; omega))
           have KM := Lib.hid (made_any HR.out HCK.out hnp yl ya yc (open_ot HOY.out) wu HTI.out.tbl HTL.out HFY.out HCA.out HTI.out.sl.sym)
           clear hac hy hmem hget hfac
           go_wp2_with fail
           refine KM.out.mono ?_
           rintro e w5 ⟨ok, rfl, hok, hc5, hk5⟩
           have HT5 := Lib.hid (HTI.out.kb (C := C) hk5 (fun b e => by have e : b = C := e; omega) HTL.out)
           have HC5 := Lib.hid hc5
           have HR5 := Lib.hid (HRL.out.kb (hk5.mono (bad' := fun b => b < wt.heap.size) (fun b _ e => by have e : b = C := e; show b < wt.heap.size; omega)))
           have HF5 := Lib.hid (HFY.out.kb hk5)
           clear hc5 hk5 KM c0
           cases ok
           ·have HP5 := Lib.hid (HPS.out.no (by rw [HGE.out]; exact fun h => by have := hok.2 h; cases this))
            go_wp2
            go_roundw
            case rel => exact ⟨i + 1, ch, M', by go_num, rfl, by omega, HT5, HC5, HP5, HR5⟩
            case measure => simp [intOf]; omega
           ·have HP5 := Lib.hid (HPS.out.yes HR.out HOY.out (hok.1 rfl))
            obtain ⟨hA, hZ, hl1, hl2, _⟩ := ot_isf (open_ot HOY.out)
            have KS := fun (W : World) (k : Below w5.heap.size w5 W) => tset_any HD.out hn (pA yl) (pZ yl) hA hZ W (HT5.out.up k).tbl
            have HFP := Lib.hid (show 0 < nF t.vars from HF0.out (by have := hA.1; have := hA.2.1; omega))
            obtain ⟨m, hm⟩ : ∃ m, yl.length = m + 1 := ⟨yl.length - 1, by omega⟩
            have hm2 : m ≤ 1 := by omega
            have hwm : IntKind.i64.wrap (m : Int) = (m : Int) := IntWalk.i64_in _ (by omega)
            obtain ⟨yb, yo, rfl, hyb, _, hyc⟩ := HF5.out.2 (by omega)
            have p0 := (hyc 0 (by omega)).1
            have p1 := (hyc 0 (by omega)).2
            have p2 := (hyc m (by omega)).1
            have p3 := (hyc m (by omega)).2
            rw [Nat.zero_mul, Nat.add_zero] at p0 p1
            have eA1 : fv yl 0 = (pA yl).1 := rfl
            have eA2 : fx yl 0 = (pA yl).2 := rfl
            have eZ1 : fv yl m = (pZ yl).1 := by unfold pZ; rw [show yl.length - 1 = m by omega]; rfl
            have eZ2 : fx yl m = (pZ yl).2 := by unfold pZ; rw [show yl.length - 1 = m by omega]; rfl
            rw [eA1] at p0
            rw [eA2] at p1
            rw [eZ1] at p2
            rw [eZ2] at p3
            obtain ⟨⟨a1, a2⟩, ha0⟩ : ∃ a0, a0 = pA yl := ⟨_, rfl⟩
            obtain ⟨⟨z1, z2⟩, hz0⟩ : ∃ z0, z0 = pZ yl := ⟨_, rfl⟩
            rw [← ha0] at p0 p1 KS
            rw [← hz0] at p2 p3 KS
            rw [← ha0, ← hz0] at HP5
            dsimp only at p0 p1 p2 p3 KS
            have KS := Lib.hid KS
            rw [hm]
            clear hyc eA1 eA2 eZ1 eZ2 ha0 hz0 hA hZ hl1 hl2 hm hok
            go_wp2_with fail
            refine wp_region_G 10 (fun w' => ∀ b o, w'.cell? ⟨b, o, none⟩ = if b < w5.heap.size then w5.cell? ⟨b, o, none⟩ else hidC w' b o) (by kernel_rfl) (cif (B := w5.heap.size) (W := w5) (Below.refl _ _).drew) ?_
            intro hG0
            refine wpS1 0 hG0 ?_; intro hG1; clear hG0
            refine wpS1 1 hG1 ?_; intro hG2; clear hG1
            refine wpS1 2 hG2 ?_; intro hG3; clear hG2
            refine wpS2 3 hG3 ?_; intro hG4; clear hG3
            refine wpS1 4 hG4 ?_; intro hG5; clear hG4
            refine wpS1 5 hG5 ?_; intro hG6; clear hG5
            refine wpS1 6 hG6 ?_; intro hG7; clear hG6
            refine wpS1 7 hG7 ?_; intro hG8; clear hG7
            refine wpS1 8 hG8 ?_; intro hG9; clear hG8
            refine wpS2 9 hG9 ?_; intro hG10; clear hG9
            refine wpAnyG_ready (rs := [10]) (by kernel_rfl) (by simp) (AllG.cons rfl hG10 (fun K hK => ?_) AllG.nil)
            (go_simp; go_at_call 26; refine (KS.out _ (by exact bel)).mono ?_; rintro e w6 ⟨rfl, ht6, hk6⟩)
            refine hK.out _ _ (Or.inl rfl) (fun hG11 => wpN ?_); clear hK hG10
            refine wpAnyG_done (by kernel_rfl) ?_ _; clear hG11
            have hK6 : Kb (RowB (nF t.vars) rb) w5 w6 := ((Kb.refl _ w5).drew).trans hk6
            have HT6 := Lib.hid (HT5.out.sets HFP.out ht6 hK6 HP5.out.sl)
            have HC6 := Lib.hid (HC5.out.kb hK6 (fun b hb => by obtain ⟨j, hj, rfl⟩ := hb; exact HTL.out.r j hj))
            have HR6 := Lib.hid (HR5.out.kb (hK6.mono (bad' := fun b => b < wt.heap.size) (fun b _ hb => by obtain ⟨j, hj, rfl⟩ := hb; have := HTL.out.r j hj; show rb j < wt.heap.size; omega)))
            clear ht6 hk6 hK6 p0 p1 p2 p3 KS
            go_wp2
            go_roundw
            case rel => exact ⟨i + 1, true, _, by go_num, rfl, by omega, HT6, HC6, HP5, HR6⟩
            case measure => simp [intOf]; omega
          ·have hie : i = (hls hs).length := by
            have h1 : (hls hs).length = hs.length := by unfold hls; rw [List.length_map]
            omega
           cases ch
           ·have HMN := Lib.hid (show MLst t (rF t.vars M') from by
             have h := HPS.out
             rw [hie] at h
             exact h.done HOP.out)
            have HIN9 := Lib.hid HPS.out.ini
            clear hie
            go_wp2
            go_roundg 0
            case rel => exact ⟨false, M', rfl, HTI, HCA, HIN9, Lib.hid (fun _ => HMN.out), Lib.hid (fun h => by cases h)⟩
            case measure => omega
           ·have HLS := Lib.hid (HPS.out.less rfl)
            have HIN9 := Lib.hid HPS.out.ini
            clear hie
            go_wp2
            go_roundg (fcM (nF t.vars) M' (nF t.vars) + 1)
            case rel => exact ⟨true, M', rfl, HTI, HCA, HIN9, Lib.hid (fun h => by cases h), Lib.hid (fun _ => Nat.le_refl _)⟩
            case measure => have := HLS.out; have := HG0.out; omega
end

end Go.Proofs.YtlkebhiaimijiaaGreatDoor

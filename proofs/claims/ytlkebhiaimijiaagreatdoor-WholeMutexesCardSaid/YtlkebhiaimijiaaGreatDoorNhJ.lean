/- Texts laid together: VhW, VhX, VhY. -/
import Derived.Test.YtlkebhiaimijiaaGreatDoorBel
import Derived.Test.YtlkebhiaimijiaaGreatDoorNhH
import Derived.Test.YtlkebhiaimijiaaGreatDoorVeD
import Derived.Test.YtlkebhiaimijiaaGreatDoorNhI
import Derived.Test.YtlkebhiaimijiaaGreatDoorVgB
import Derived.Test.YtlkebhiaimijiaaGreatDoorVfA
import Derived.Test.YtlkebhiaimijiaaGreatDoorNhL
namespace Go.Proofs.YtlkebhiaimijiaaGreatDoor
set_option linter.unusedSimpArgs false
set_option linter.unusedVariables false
section
open Go Go.RowKit Go.Maps
set_option linter.unusedVariables false

def msL (hs : List Hd) (i : Nat) : List Ngd := (hs.take i).map fun h => ⟨h.a, h.c, h.l, 0⟩
theorem msL_len {hs : List Hd} {i : Nat} (h : i ≤ hs.length) : (msL hs i).length = i := by unfold msL; rw [List.length_map, List.length_take]; omega
theorem take_hd {hs : List Hd} {i : Nat} (h : i < hs.length) : hs.take (i + 1) = hs.take i ++ [hd hs i] := by
 rw [List.take_succ_eq_append_getElem h]; unfold hd; simp [List.getD, h]
theorem msL_succ {hs : List Hd} {i : Nat} (h : i < hs.length) : msL hs (i + 1) = msL hs i ++ [⟨(hd hs i).a, (hd hs i).c, (hd hs i).l, 0⟩] := by unfold msL; rw [take_hd h, List.map_append]; rfl
theorem msL_nogs (hs : List Hd) : nogs (msL hs hs.length) = (hls hs).map fun p => ⟨p, 0⟩ := by
 unfold nogs msL hls
 rw [List.take_length, List.map_map, List.map_map]
 rfl
theorem msL_mem {hs : List Hd} {n : Ngd} {i : Nat} (h : n ∈ msL hs i) : ∃ y ∈ hs, n.a = y.a ∧ n.l = y.l := by
 unfold msL at h
 obtain ⟨y, hy, rfl⟩ := List.mem_map.1 h
 exact ⟨y, List.mem_of_mem_take hy, rfl, rfl⟩
/-- What Nogoods returns. -/
def NoRet (ps : List (List Fct)) (e : Ending) (w' : World) : Prop :=
 ∃ (NA : Option Addr) (nc : Nat) (ms : List Ngd), e = .returned (.slice NA ms.length nc) ∧ Nls w' (fun _ => False) NA ms ∧ nogs ms = ps.map fun p => ⟨p, 0⟩

set_option maxRecDepth 20000 in
set_option maxHeartbeats 16000000 in
theorem nogoods_any {B X fc rc g : Nat} {t : Tsk} {q : Lies} {fa ra : Option Addr} {rb : Nat → Nat} {M : Nat → Nat → Bool} (hd : ∀ k, k < t.vars.length → 1 ≤ nth t.vars k ∧ nth t.vars k ≤ 64) (hn : t.vars.length ≤ 64) (hF : (faL t.vars t.vars.length).length ≤ 600) (w : World) (h : TblAt w B X t q fa fc ra rc g rb M) :
  Calls Tryz.prog 15 #[.pointer (some ⟨X, 0, none⟩)] w fun e w' => NoRet (opL (rF t.vars M) (faL t.vars t.vars.length)) e w' ∧ Below w.heap.size w w' := by
 obtain ⟨inf, hinf, iz0, iz1, iz2⟩ := info_parts sinfN
 have KO := Lib.hid (topen_any hd hn hF w h)
 have hsz : (opL (rF t.vars M) (faL t.vars t.vars.length)).length ≤ 400000 := by
  have h1 := opL_len (R := rF t.vars M) (l := faL t.vars t.vars.length)
  have h2 : (faL t.vars t.vars.length).length * (faL t.vars t.vars.length).length ≤ 600 * 600 := Nat.mul_le_mul hF hF
  omega
 obtain ⟨ps, hps⟩ : ∃ ps, ps = opL (rF t.vars M) (faL t.vars t.vars.length) := ⟨_, rfl⟩
 rw [← hps] at KO hsz
 rw [← hps]
 clear hps h hd hF
 go_enter Tryz.func15, Tryz.ntmps15
 go_wp2_with fail
 refine KO.out.mono ?_
 rintro e wq ⟨⟨A, c, hs, rfl, hop⟩, hbq⟩
 have HOP := Lib.hid hop
 have HBQ := Lib.hid hbq
 have hwq := hbq.size
 have hsl : hs.length ≤ 400000 := by
  have h1 : (hls hs).length = hs.length := by unfold hls; rw [List.length_map]
  rw [← h1, hop.eq]; exact hsz
 have HRL := Lib.hid (show Rls wq (fun _ => False) A hs from hop.gr.list rfl (by omega))
 clear hop hbq KO
 go_wp2_with fail
 go_loopw [3, 11] (fun v3 v11 wr => ∃ (i : Nat) (NA : Option Addr) (nc : Nat), v3 = .slice NA i nc ∧ v11 = .int .i64 i ∧ i ≤ hs.length ∧ Hid (wr.ownsRow wq.heap.size 97 2 (.slice NA i nc) i (ngC (msL hs i))) ∧ Hid (Below wq.heap.size wq wr)) (fun _ v11 _ => hs.length - (intOf v11).toNat)
 case atStart => exact ⟨0, none, 0, rfl, rfl, by omega, Lib.hid (World.ownsRow_nil _ _ _ _), Lib.hid (Below.refl _ _)⟩
 case round =>
  obtain ⟨i, NA, nc, rfl, rfl, hi, HO, HB⟩ := hrel
  obtain ⟨wt, rfl⟩ : ∃ wt : World, wt = wr := ⟨_, rfl⟩
  have hwt := HB.out.size
  by_cases hlt : i < hs.length
  ·obtain ⟨ab, ao, rfl, hab, _, hac⟩ := HRL.out.at_ hlt
   have c0 := (HB.out.cell (p := ⟨ab, _, none⟩) hab).trans (hac i hlt)
   have habl : ab < wt.heap.size := by omega
   have HMS := Lib.hid (msL_succ hlt)
   obtain ⟨⟨ya, yc, yl⟩, hy⟩ : ∃ y : Hd, y = Go.Proofs.YtlkebhiaimijiaaGreatDoor.hd hs i := ⟨_, rfl⟩
   rw [← hy] at c0 HMS
   dsimp only at c0 HMS
   clear hac hy
   go_wp2_with (at_builtin; refine wpList_append_src (by rfl) _ _ 39 (by rfl) wq.heap.size 97 inf (.agg #[.slice none 0 0, .int .i64 0]) 2 32 sundN hinf iz0 iz1 iz2 rfl (by decide) (.slice NA i nc) i (ngC (msL hs i)) (by rfl) (by exact HO.out.alloc _) (some ⟨wt.heap.size, 0, none⟩) 1 1 [.slice ya yl.length yc, .int .i64 0] (by rfl) (src_of (heap_alloc_new wt _) rfl (by intro u hu; simp at hu; rcases hu with rfl | rfl <;> rfl)) (by unfold maxLen; omega) (by omega) (by first | omega | (simp; done) | (simp; omega)) ?_; intro v9 w9 hown9 hgrow9 hat9; obtain ⟨A9, c9, rfl⟩ := own_shape hown9; have HO9 := Lib.hid hown9; have HB9 := Lib.hid ((HB.out.alloc hwt _).grown hgrow9 (by simp; omega) (fun b hb => (HO.out.lt b hb).1)); clear hown9 hgrow9 hat9)
   have HON := Lib.hid (show w9.ownsRow wq.heap.size 97 2 (.slice A9 (i + 1) c9) (i + 1) (ngC (msL hs (i + 1))) from by rw [HMS.out, ngC_app, ngC_one]; exact HO9.out)
   go_roundw
   case rel => exact ⟨i + 1, A9, c9, rfl, by go_num, by omega, HON, HB9⟩
   case measure => simp [intOf]; omega
  ·have hil : i = hs.length := by omega
   have HFIN := Lib.hid (show NoRet ps (.returned (.slice NA i nc)) wt from by
    subst hil
    have hml := msL_len (Nat.le_refl hs.length)
    have ho := HO.out
    refine ⟨NA, nc, msL hs hs.length, by rw [hml], ?_, by rw [msL_nogs, HOP.out.eq]⟩
    refine nls_own (B := wq.heap.size) (c := nc) (by rw [hml]; exact ho) (by omega) (fun _ _ h => h) (fun n hn => ?_)
    obtain ⟨y, hy, e1, e2⟩ := msL_mem hn
    rw [e1, e2]
    exact ((HOP.out.gr.fac y hy).sub (fun _ _ h => h.elim)).up HB.out)
   clear hil
   go_wp2
   go_ret
   exact ⟨HFIN.out, HBQ.out.trans (HB.out.mono hwq)⟩
end

section
open Go Go.RowKit Go.Maps
set_option linter.unusedVariables false

section
variable {t : Tsk} {H : List Fct → Bool}
theorem prn_op {k : Nat} (hk : k < (prnT t H).ops.length) : ∃ j, j < t.ops.length ∧ opr (prnT t H).ops k = opr t.ops j := by
 obtain ⟨j, hj, e⟩ := mem_opr (mem_prn.1 (opr_mem hk)).1
 exact ⟨j, hj, e⟩
theorem prn_no (t : Tsk) (H : List Fct → Bool) : (prnT t H).ops.length ≤ t.ops.length := List.length_filter_le _ _
theorem prn_chk (h : chkC t = 0) : chkC (prnT t H) = 0 := by
 rw [← goT_chk] at h ⊢
 unfold goT at h ⊢
 simp only [Bool.and_eq_true, Bool.not_eq_true', decide_eq_false_iff_not, anyB_false, Bool.or_eq_false_iff, Bool.not_eq_false'] at h ⊢
 obtain ⟨⟨h1, h2⟩, h3, ⟨h4, h5⟩, h6⟩ := h
 have := prn_no t H
 refine ⟨⟨h1, by omega⟩, h3, ⟨h4, h5⟩, fun k hk => ?_⟩
 obtain ⟨j, hj, e⟩ := prn_op hk
 rw [e]
 exact h6 j hj
theorem prn_smll (h : Smll t) : Smll (prnT t H) where
 nv := h.nv
 no := by have := h.no; have := prn_no t H; omega
 ne := fun k hk => by obtain ⟨j, hj, e⟩ := prn_op hk; rw [e]; exact h.ne j hj
 right := prn_right h.right
 chk := prn_chk h.chk
 many := h.many
end
/-- What Lower answered on a task with few partial states. -/
structure LwW (t : Tsk) (b B : Int) (NA : Option Addr) (n nc : Nat) (v : Value) (w' : World) : Prop where
 two : (∃ (ns : List Ngd), B = b ∧ n = ns.length ∧ v = .nilIface ∧ Nls w' (fun _ => False) NA ns ∧ LowC t b ns) ∨ (v = .iface 49 (.int .i64 13) ∧ ∃ c, PlanC t t.init c ∧ (b < 0 ∨ c < b))
theorem lw_few {t : Tsk} {b : Int} {e : Ending} {w' : World} (h : LowRet t b 4096 e w') (hn : npV t.vars ≤ 1024) : ∃ (B : Int) (NA : Option Addr) (n nc : Nat) (v : Value), e = .returned (.tuple #[.agg #[.int .i64 B, .slice NA n nc], v]) ∧ LwW t b B NA n nc v w' := by
 rcases h with ⟨NA, nc, ns, rfl, h1, h2⟩ | ⟨ec, rfl, h | h | h⟩
 ·exact ⟨_, _, _, _, _, rfl, ⟨.inl ⟨ns, rfl, rfl, rfl, h1, h2⟩⟩⟩
 ·obtain ⟨rfl, h⟩ := h
  exact ⟨_, _, _, _, _, rfl, ⟨.inr ⟨rfl, h⟩⟩⟩
 ·omega
 ·omega
theorem low_no {t : Tsk} {b : Int} {ns : List Ngd} (hr : Right t) (h : LowC t b ns) : ¬ ∃ c, PlanC t t.init c ∧ (b < 0 ∨ c < b) := fun ⟨c, hp, hb⟩ => by
 have := cert_sound hr (syn_cert hr h.syn) hp
 omega
section
variable {t : Tsk} {R R2 : Fct → Fct → Bool}
theorem prn_hold {M2 : Nat → Nat → Bool} (h : MLst t R) (h2 : MLst t (rF t.vars M2)) : ∀ z, faB t.vars z = true → (hldB (rF t.vars M2) z = true ↔ HoldR R z) := fun z hz =>
 (hldB_iff h2.ok.sym (fa_inv hz)).trans (mlst_hold h2 h hz)
theorem plan_same {H : List Fct → Bool} (hr : Right t) (hm : MutOk t R) (hH : ∀ z, faB t.vars z = true → (H z = true ↔ HoldR R z)) {b : Int} : (∃ c, PlanC t t.init c ∧ (b < 0 ∨ c < b)) ↔ ∃ c, PlanC (prnT t H) (prnT t H).init c ∧ (b < 0 ∨ c < b) :=
 ⟨fun ⟨c, h1, h2⟩ => ⟨c, prn_down hr hm hH h1 (inv_init hr hm), h2⟩, fun ⟨c, h1, h2⟩ => ⟨c, prn_up h1, h2⟩⟩
end
/-- Nogoods of a certificate of Lower are few. -/
theorem low_few {t : Tsk} {b : Int} {ns : List Ngd} (h : LowC t b ns) : ns.length ≤ npV t.vars := by
 have h1 : (ns.map Ngd.l).Nodup := h.nosub.imp fun {a c} hs e => hs (by rw [e]; exact sub_refl _)
 have := np_bound h1 (fun p hp => by
  obtain ⟨n, hn, rfl⟩ := List.mem_map.1 hp
  exact h.syn.fa ⟨n.l, n.d⟩ (nogs_mem.2 ⟨n, hn, rfl⟩))
 rw [List.length_map] at this
 exact this
/-- The numbers of a certificate are right. -/
theorem chk_mem {b : Int} {ns : List Ngd} (hb0 : -1 ≤ b) (hb1 : b ≤ 1099511627776) (hl : ns.length ≤ 4096) (h : ∀ x ∈ nogs ns, fmB x.facts = true ∧ dsB b x.dist = false) : chkN b ns = 0 := by
 have hk : ∀ k, k < ns.length → fmB (ng ns k).l = true ∧ dsB b (ng ns k).d = false := fun k hk => h ⟨(ng ns k).l, (ng ns k).d⟩ (nogs_mem.2 ⟨_, ng_mem hk, rfl⟩)
 unfold chkN
 rw [if_neg (by omega), if_neg (by omega), if_neg, if_neg]
 ·rw [Bool.not_eq_true, anyB_false]; exact fun k hk2 => (hk k hk2).2
 ·rw [Bool.not_eq_true, anyB_false]; intro k hk2; rw [(hk k hk2).1]; rfl
theorem ds_zero {b : Int} (hb : b ≠ 0) : dsB b 0 = false := by
 unfold dsB
 simp
 omega
theorem ds_rch {t : Tsk} {b d : Int} {f : List Fct} (hr : Right t) (hb : b ≠ 0) (h : Rch t b f d) : dsB b d = false := by
 have := h.rng hr hb
 unfold dsB
 simp only [Bool.or_eq_false_iff, Bool.and_eq_false_iff, decide_eq_false_iff_not, Bool.not_eq_false', decide_eq_true_eq]
 omega
theorem mem_app {Ns : List Nog} {Ms : List (List Fct)} {x : Nog} (h : x ∈ Ns ++ Ms.map fun p => ⟨p, 0⟩) : x ∈ Ns ∨ ∃ p ∈ Ms, x = ⟨p, 0⟩ := by
 rcases List.mem_append.1 h with h | h
 ·exact .inl h
 ·obtain ⟨p, hp, rfl⟩ := List.mem_map.1 h
  exact .inr ⟨p, hp, rfl⟩
/-- What is joined: its numbers are right. -/
theorem chk_join {t u : Tsk} {b : Int} {R : Fct → Fct → Bool} {ns rs : List Ngd} {Ms : List (List Fct)} (hr : Right t) (hu : Right u) (huv : u.vars = t.vars) (hb : b ≠ 0) (hb0 : -1 ≤ b) (hb1 : b ≤ 1099511627776) (hl : rs.length ≤ 4096) (h : LowC u b ns) (hM : ∀ p, p ∈ Ms ↔ OpenS t.vars R p) (hrs : nogs rs = nogs ns ++ Ms.map fun p => ⟨p, 0⟩) : chkN b rs = 0 := by
 have hfm : ∀ {f}, faB t.vars f = true → fmB f = true := fun hf => fm_of hf hr.nv (fun k hk => (hr.dom k hk).2)
 refine chk_mem hb0 hb1 hl fun x hx => ?_
 rw [hrs] at hx
 rcases mem_app hx with hx | ⟨p, hp, rfl⟩
 ·obtain ⟨n, hn, rfl⟩ := nogs_mem.1 hx
  have hrc := h.rch n hn
  exact ⟨hfm (by rw [← huv]; exact hrc.fa hu), ds_rch hu hb hrc⟩
 ·exact ⟨hfm (open_fa ((hM p).1 hp)), ds_zero hb⟩
theorem chk_ms {t : Tsk} {b : Int} {R : Fct → Fct → Bool} {ms : List Ngd} {Ms : List (List Fct)} (hr : Right t) (hb : b ≠ 0) (hb0 : -1 ≤ b) (hb1 : b ≤ 1099511627776) (hl : ms.length ≤ 4096) (hM : ∀ p, p ∈ Ms ↔ OpenS t.vars R p) (hms : nogs ms = Ms.map fun p => ⟨p, 0⟩) : chkN b ms = 0 := by
 refine chk_mem hb0 hb1 hl fun x hx => ?_
 rw [hms] at hx
 obtain ⟨p, hp, rfl⟩ := List.mem_map.1 hx
 exact ⟨fm_of (open_fa ((hM p).1 hp)) hr.nv (fun k hk => (hr.dom k hk).2), ds_zero hb⟩
theorem full_join {t : Tsk} {b : Int} {ns rs : List Ngd} {Ms : List (List Fct)} (hnp : npV t.vars ≤ 182) (hno : t.ops.length ≤ 5) (hl : rs.length ≤ 1000) (hs : SynOk t b (nogs rs)) : Full t b rs 1048576 where
 np := by omega
 syn := hs
 many := by
  have h1 : rs.length * t.ops.length ≤ 1000 * 5 := Nat.mul_le_mul hl hno
  have h2 : (rs.length * t.ops.length + 1) * npV t.vars ≤ 5001 * 182 := Nat.mul_le_mul (by omega) hnp
  omega
/-- Facts are few. -/
theorem tame_frS {vars : List Int} (h4 : vars.length ≤ 4) (hd : ∀ k, k < vars.length → nth vars k ≤ 4) : frS vars vars.length ≤ 16 := by
 have : ∀ i, i ≤ vars.length → frS vars i ≤ 4 * i := fun i => by
  induction i with
  | zero => intro _; exact Int.le_refl _
  | succ i ih =>
   intro hi
   have h1 := ih (by omega)
   have h2 := hd i (by omega)
   have e : frS vars (i + 1) = frS vars i + nth vars i := rfl
   omega
 have := this _ (Nat.le_refl _)
 omega
theorem open_few {vars : List Int} {R : Fct → Fct → Bool} (hd : ∀ k, k < vars.length → 0 ≤ nth vars k) (h : frS vars vars.length ≤ 16) : (faL vars vars.length).length ≤ 16 ∧ (opL R (faL vars vars.length)).length ≤ 272 := by
 have h1 := faL_len hd vars.length (Nat.le_refl _)
 have h2 : (faL vars vars.length).length ≤ 16 := by omega
 have h3 := opL_len (R := R) (l := faL vars vars.length)
 have h4 : (faL vars vars.length).length * (faL vars vars.length).length ≤ 16 * 16 := Nat.mul_le_mul h2 h2
 exact ⟨h2, by omega⟩
/-- The task of mutexAwake. -/
def TMw : Tsk := ⟨[2], [0], [], []⟩
theorem chkMw : chkC TMw = 0 := by decide +kernel
theorem npMw : npV TMw.vars ≤ 1024 := by decide +kernel
theorem frMw : frS TMw.vars TMw.vars.length ≤ 512 := by decide +kernel
theorem isfMw : IsF TMw.vars (0, 1) := by unfold IsF; decide +kernel
theorem fabMw : faB TMw.vars [(0, 1)] = true := by decide +kernel
theorem mutMw {R : Fct → Fct → Bool} (h : MLst TMw R) : R (0, 1) (0, 1) = false := by
 have hok : MutOk TMw fun a b => decide (a = (0, 0) ∧ b = (0, 0)) := by
  refine ⟨fun a b _ _ => by rw [Bool.eq_iff_iff, decide_eq_true_eq, decide_eq_true_eq]; exact And.comm, fun a b ha hb e1 e2 => ?_, fun p _ k hk => absurd hk (Nat.not_lt_zero k)⟩
  have key : ∀ c : Fct, IsF TMw.vars c → nth TMw.init c.1.toNat = c.2 → c = (0, 0) := fun c hc e => by
   obtain ⟨h0, h1, h2, h3⟩ := hc
   have h1' : c.1 < 1 := h1
   have e0 : c.1 = 0 := by omega
   rw [e0] at e
   exact Prod.ext e0 e.symm
  rw [key a ha e1, key b hb e2]
  decide
 cases e : R (0, 1) (0, 1)
 ·rfl
 ·have := h.sl.least _ hok _ _ isfMw isfMw e
  exact absurd this (by decide)
end

section
open Go Go.RowKit Go.Maps
set_option linter.unusedVariables false

def LMw (B : Nat) : Lies := ⟨some ⟨B, 0, none⟩, some ⟨B + 1, 0, none⟩, none, none, 1, 1, 0, 0⟩
def worldMw (w : World) : World := (w.alloc (.cells #[.int .i64 2] 3)).alloc (.cells #[.int .i64 0] 3)
theorem worldMw_t (w : World) : TaskAt (worldMw w) (worldMw w).heap.size TMw (LMw w.heap.size) where
 vars := one_int (by unfold worldMw; simp; omega) (((BxI.new w 3 #[.int .i64 2]).up ((Below.refl _ _).alloc (Nat.le_refl _) _)).cell 0 _ rfl)
 init := one_int (by unfold worldMw; simp) ((BxI.new2 w (.cells #[.int .i64 2] 3) 3 #[.int .i64 0]).cell 0 _ rfl)
 goal := ⟨by decide, fun h => absurd h (by decide)⟩
 ops := ⟨by decide, fun h => absurd h (by decide)⟩
theorem worldMw_b (w : World) : Below w.heap.size w (worldMw w) := by unfold worldMw; exact bel

set_option maxRecDepth 20000 in
set_option maxHeartbeats 8000000 in
theorem mutexAwake_any (w : World) (hE : EnvT w) : Calls Tryz.prog 7 #[] w fun e w' => e = .returned (.bool true) ∧ Below w.heap.size w w' := by
 obtain ⟨W1, hW1⟩ : ∃ W1, W1 = worldMw w := ⟨_, rfl⟩
 have HB1 := Lib.hid (show Below w.heap.size w W1 by rw [hW1]; exact worldMw_b w)
 have KN := Lib.hid (new_any TMw (LMw w.heap.size) W1 (by rw [hW1]; exact worldMw_t w) chkMw npMw frMw)
 have HE := Lib.hid hE
 unfold worldMw at hW1
 clear hE
 go_enter Tryz.func7, Tryz.ntmps7
 go_wp2_with fail
 rw [← hW1]
 have HW1 := Lib.hid hW1
 clear hW1
 refine KN.out.mono ?_
 rintro e w2 ⟨⟨B, X, p', FA, FC, RA, RC, g, rb, M, rfl, htb, _, hml, _⟩, hb2⟩
 have HB2 := Lib.hid (HB1.out.trans (hb2.mono HB1.out.size))
 have KR := treached_any (right_of chkMw).dom (right_of chkMw).nv (0, 1) isfMw fabMw w2 htb
 rw [mutMw hml] at KR
 have KR := Lib.hid KR
 clear htb hml hb2 KN
 go_wp2_with fail
 refine KR.out.mono ?_
 rintro e w3 ⟨rfl, hb3⟩
 have HB3 := Lib.hid (HB2.out.trans (hb3.mono HB2.out.size))
 have KC := Lib.hid (certifyAwake_any w3 (HE.out.up HB3.out))
 clear hb3 KR
 go_wp2_with fail
 refine KC.out.mono ?_
 rintro e w4 ⟨rfl, hb4⟩
 go_wp2
 go_ret
 exact ⟨rfl, HB3.out.trans (hb4.mono HB3.out.size)⟩
end

end Go.Proofs.YtlkebhiaimijiaaGreatDoor

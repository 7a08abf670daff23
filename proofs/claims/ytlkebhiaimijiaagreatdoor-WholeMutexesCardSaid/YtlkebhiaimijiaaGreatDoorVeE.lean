/- certify.Lower, walked. -/
import Derived.Test.YtlkebhiaimijiaaGreatDoorVeD
import Derived.Deep.LoopGhost
namespace Go.Proofs.YtlkebhiaimijiaaGreatDoor
set_option linter.unusedSimpArgs false
set_option linter.unusedVariables false
open Go Go.RowKit
set_option linter.unusedVariables false

theorem fm_of {vars : List Int} {f : List Fct} (h : faB vars f = true) (hv : vars.length ≤ 64) (hd : ∀ k, k < vars.length → nth vars k ≤ 64) : fmB f = true := by
 refine fm_end fun k hk => ?_
 have h1 := fa_inv h _ (fct_mem hk)
 dsimp only at h1
 have h2 := hd (fv f k).toNat (by omega)
 exact ⟨h1.1, by omega, h1.2.2.1, by omega, fun h0 => asc_iff.1 (fa_asc h) k hk h0⟩
theorem chk_low {t : Tsk} {b : Int} {ns : List Ngd} (hr : Right t) (hb0 : -1 ≤ b) (hb1 : b ≤ 1099511627776) (hl : ns.length ≤ 4096) (hn : ∀ n ∈ ns, Rch t b n.l n.d) (hb : b ≠ 0 ∨ ns = []) : chkN b ns = 0 := by
 unfold chkN
 rw [if_neg (by omega), if_neg (by omega), if_neg, if_neg]
 ·rw [Bool.not_eq_true, anyB_false]
  intro k hk
  have hbn : b ≠ 0 := by
   rcases hb with h | h
   ·exact h
   ·rw [h] at hk; simp at hk
  have := (hn _ (ng_mem hk)).rng hr hbn
  unfold dsB
  simp only [Bool.or_eq_false_iff, Bool.and_eq_false_iff, decide_eq_false_iff_not, Bool.not_eq_false', decide_eq_true_eq]
  omega
 ·rw [Bool.not_eq_true, anyB_false]
  intro k hk
  rw [fm_of ((hn _ (ng_mem hk)).fa hr) hr.nv (fun k hk => (hr.dom k hk).2)]; rfl
/-- A certificate that Lower returns. -/
structure LowC (t : Tsk) (b : Int) (ns : List Ngd) : Prop where
 syn : SynOk t b (nogs ns)
 chk : chkN b ns = 0
 rch : ∀ n ∈ ns, Rch t b n.l n.d
 nosub : (ns.map Ngd.l).Pairwise fun a c => ¬ Sub a c
def LowRet (t : Tsk) (b lim : Int) (e : Ending) (w' : World) : Prop :=
 (∃ (NA : Option Addr) (nc : Nat) (ns : List Ngd), e = .returned (.tuple #[.agg #[.int .i64 b, .slice NA ns.length nc], .nilIface]) ∧ Nls w' (fun _ => False) NA ns ∧ LowC t b ns) ∨
 ∃ (ec : Int), e = .returned (.tuple #[.agg #[.int .i64 0, .slice none 0 0], .iface 49 (.int .i64 ec)]) ∧ ((ec = 13 ∧ ∃ c, PlanC t t.init c ∧ (b < 0 ∨ c < b)) ∨ (ec = 10 ∧ lim + 1 ≤ npV t.vars) ∨ (ec = 5 ∧ 1025 ≤ npV t.vars))

theorem low_q {M K n s k m : Nat} (hK : K = n * M) (hs : s + 1 ≤ M) (hk : k < n) (hm : m ≤ M) (hb : (M + 1) * K + 1 ≤ 9000000) : s * K + k * M + m + 1 ≤ 9000000 := by
 have h1 : (k + 1) * M ≤ n * M := Nat.mul_le_mul_right _ hk
 rw [Nat.add_mul, Nat.one_mul, ← hK] at h1
 have h2 : (s + 1) * K ≤ (M + 1) * K := Nat.mul_le_mul_right _ (by omega)
 rw [Nat.add_mul, Nat.one_mul] at h2
 omega
theorem low_q0 {M K n s k : Nat} (hK : K = n * M) (hs : s + 1 ≤ M) (hk : k ≤ n) (hb : (M + 1) * K + 1 ≤ 9000000) : s * K + k * M + 1 ≤ 9000000 := by
 have h1 : k * M ≤ n * M := Nat.mul_le_mul_right _ hk
 rw [← hK] at h1
 have h2 : (s + 1) * K ≤ (M + 1) * K := Nat.mul_le_mul_right _ (by omega)
 rw [Nat.add_mul, Nat.one_mul] at h2
 omega
theorem low_g {M K s a b c g : Nat} (hs : s + 1 ≤ M) (h1 : (M + 1 - s) * (K + 1) + a ≤ g) (h2 : b + 1 = a) (h3 : c ≤ b + K) : (M + 1 - (s + 1)) * (K + 1) + c < g := by
 have h4 : M + 1 - s = (M + 1 - (s + 1)) + 1 := by omega
 rw [h4, Nat.add_mul, Nat.one_mul] at h1
 omega
theorem lbad_lt {t : Tsk} {p : Lies} {b : Int} {w wr : World} {C9 H : Nat} {NA : Option Addr} {nc : Nat} {ns : List Ngd} {A : Option Addr} {c : Nat} {es : List En} (h : LowM t p b w C9 H NA nc ns A c es wr) {q : Nat} (hq : LBad (w.heap.size + 1) C9 H (.slice NA ns.length nc) (.slice A es.length c) q) : q < wr.heap.size := by
 have h1 := h.rbx.lt
 have h2 := h.cbx.lt
 have h3 := h.hp.box.lt
 rcases hq with e | e | e | e | e
 ·omega
 ·omega
 ·omega
 ·exact (h.row.lt q e).2
 ·exact (h.hp.own.lt q e).2

set_option maxRecDepth 20000 in
set_option maxHeartbeats 64000000 in
theorem lower_any (t : Tsk) (p : Lies) (b lim : Int) (w : World) (ht : TaskAt w w.heap.size t p) (hc : chkC t = 0) (hb0 : -1 ≤ b) (hb1 : b ≤ 1099511627776) (hl0 : 0 ≤ lim) (hl1 : lim ≤ 4096) (hbig : (npV t.vars + 1) * (t.ops.length * npV t.vars) + 1 ≤ 9000000) :
  Calls Tryz.prog 12 #[TaskV t p, .int .i64 b, .int .i64 lim] w fun e w' => LowRet t b lim e w' ∧ Below w.heap.size w w' := by
 have HR := Lib.hid (right_of hc)
 have hno := HR.out.no
 have hng := HR.out.ng
 obtain ⟨inf, hinf, iz0, iz1, iz2⟩ := info_parts sinfN
 obtain ⟨M, hM⟩ : ∃ M, M = npV t.vars := ⟨_, rfl⟩
 obtain ⟨K, hK⟩ : ∃ K, K = t.ops.length * M := ⟨_, rfl⟩
 have HBIG := Lib.hid hbig
 rw [← hM, ← hK] at HBIG
 have HM := Lib.hid hM
 have HK := Lib.hid hK
 obtain ⟨W0, hW0⟩ : ∃ W0, W0 = (w.alloc (.cells #[.slice p.av t.vars.length p.cv, .slice p.ai t.init.length p.ci, .slice p.ag t.goal.length p.cg, .slice p.ao t.ops.length p.co] 26)).alloc (.cells #[.int .i64 0, .slice none 0 0] 41) := ⟨_, rfl⟩
 have HB0 := Lib.hid (show Below w.heap.size w W0 by rw [hW0]; exact ((Below.refl _ _).alloc (Nat.le_refl _) _).alloc (by simp) _)
 have HX0 := Lib.hid (show BxI W0 w.heap.size 26 #[.slice p.av t.vars.length p.cv, .slice p.ai t.init.length p.ci, .slice p.ag t.goal.length p.cg, .slice p.ao t.ops.length p.co] by rw [hW0]; exact (BxI.new _ _ _).up ((Below.refl _ _).alloc (Nat.le_refl _) _))
 have HR0 := Lib.hid (show BxI W0 (w.heap.size + 1) 41 #[.int .i64 0, .slice none 0 0] by rw [hW0]; exact BxI.new2 _ _ _ _)
 have K1 := Lib.hid (tcheck_any t p W0 (ht.up HB0.out))
 rw [hc, erV_0] at K1
 have HT := Lib.hid ht
 have hz0 := HB0.out.size
 clear ht hbig hM hK
 go_enter Tryz.func12, Tryz.ntmps12
 unfold TaskV at K1 ⊢
 go_wp2_with fail
 rw [← hW0]
 have HW0 := Lib.hid hW0
 clear hW0
 refine K1.out.mono ?_
 rintro e w1 ⟨rfl, hx1⟩
 have HB1 := Lib.hid (show Below w.heap.size w w1 from HB0.out.trans (hx1.mono hz0))
 have HX1 := Lib.hid (HX0.out.up hx1)
 have HR1 := Lib.hid (HR0.out.up hx1)
 clear hx1 K1
 go_wp2_with fail
 refine (bounded_any b w1 hb0 hb1).mono ?_
 rintro e w2 ⟨rfl, e2⟩
 subst e2
 have hRl := HR1.out.lt
 have hXl := HX1.out.lt
 have hz1 := HB1.out.size
 obtain ⟨C9, hC9⟩ : ∃ C9, C9 = w2.heap.size := ⟨_, rfl⟩
 obtain ⟨W3, hW3⟩ : ∃ W3, W3 = w2.alloc (.cells #[.int .i64 b, .slice none 0 0] 41) := ⟨_, rfl⟩
 have HB3 := Lib.hid (show Below w2.heap.size w2 W3 by rw [hW3]; exact (Below.refl _ _).alloc (Nat.le_refl _) _)
 have HBw3 := Lib.hid (show Below w.heap.size w W3 from HB1.out.trans (HB3.out.mono hz1))
 have HC3 := Lib.hid (show BxI W3 C9 41 #[.int .i64 b, .slice none 0 0] by rw [hW3, hC9]; exact BxI.new _ _ _)
 have HX3 := Lib.hid (HX1.out.up HB3.out)
 have HR3 := Lib.hid (HR1.out.up HB3.out)
 have hC9w : w.heap.size + 1 < C9 := by rw [hC9]; exact hRl
 by_cases hbz : b = 0
 ·have e0 : (b == 0) = true := by rw [hbz]; rfl
  have rf0 := HR1.out.fz 0
  have rf1 := HR1.out.fz 1
  have r0 := HR1.out.cell 0 (.int .i64 0) rfl
  have r1 := HR1.out.cell 1 (.slice none 0 0) rfl
  have HLC := Lib.hid (show LowC t b [] from ⟨{ fa := (fun n hn => by cases hn), ninit := (fun n hn => by cases hn), goal := fun h => absurd hbz h, step := (fun n hn => by cases hn) }, chk_low HR.out hb0 hb1 (by simp) (fun n hn => (by cases hn)) (.inr rfl), fun n hn => (by cases hn), List.Pairwise.nil⟩)
  have HZ := Lib.hid (ret_cells (u := .int .i64 0) (v := .slice none 0 0) HR1.out)
  have HBZ := Lib.hid (show Below w.heap.size w ((w2.setCell ⟨w.heap.size + 1, 0, none⟩ (.int .i64 0)).setCell ⟨w.heap.size + 1, 1, none⟩ (.slice none 0 0)) from ret_below HB1.out (by omega))
  clear hC9 hW3
  go_wp2
  have HZ2 := Lib.hid (show Below _ ((w2.setCell ⟨w.heap.size + 1, 0, none⟩ (.int .i64 0)).setCell ⟨w.heap.size + 1, 1, none⟩ (.slice none 0 0)) (((w2.setCell ⟨w.heap.size + 1, 0, none⟩ (.int .i64 0)).setCell ⟨w.heap.size + 1, 1, none⟩ (.slice none 0 0)).alloc (.cells #[.int .i64 0, .slice none 0 0] 41)) from (Below.refl _ _).alloc (Nat.le_refl _) _)
  have hRl2 : w.heap.size + 1 < ((w2.setCell ⟨w.heap.size + 1, 0, none⟩ (.int .i64 0)).setCell ⟨w.heap.size + 1, 1, none⟩ (.slice none 0 0)).heap.size := by simp; omega
  have z0 := (HZ2.out.cell (p := ⟨w.heap.size + 1, 0, none⟩) hRl2).trans HZ.out.1
  have z1 := (HZ2.out.cell (p := ⟨w.heap.size + 1, 1, none⟩) hRl2).trans HZ.out.2
  refine bodyPost_ret (v := .tuple #[.agg #[.int .i64 0, .slice none 0 0], .nilIface]) (by simp [results, Tryz.results12, go_sem, z0, z1]) rfl ⟨.inl ⟨none, 0, [], by rw [hbz]; rfl, ⟨by simp, fun h => absurd h (by simp), fun x hx => by cases hx⟩, HLC.out⟩, HBZ.out.trans (HZ2.out.mono (by simp; omega))⟩
 ·have e0 : (b == 0) = false := by simpa using hbz
  have HBZ := Lib.hid hbz
  have KL := Lib.hid (cloneFac_any t.goal p.ag p.cg W3 (HT.out.goal.up HBw3.out) (by omega))
  have x2 := HX1.out.cell 2 (.slice p.ag t.goal.length p.cg) rfl
  have hgl : t.goal.length ≤ 140737488355328 := by omega
  have hmn : min lim 4096 = lim := by omega
  have hmx : max 0 lim = lim := by omega
  clear hbz
  go_wp2_with fail
  rw [← hW3, ← hC9]
  have HW3 := Lib.hid hW3
  have HC9 := Lib.hid hC9
  clear hW3 hC9 x2 e0 hmn hmx hRl hXl hgl
  refine KL.out.mono ?_
  rintro e w4 ⟨⟨A4, c4, rfl, hown4⟩, hx4⟩
  have HB4 := Lib.hid (show Below w.heap.size w w4 from HBw3.out.trans (hx4.mono HBw3.out.size))
  have HX4 := Lib.hid (HX3.out.up hx4)
  have HR4 := Lib.hid (HR3.out.up hx4)
  have HC4 := Lib.hid (HC3.out.up hx4)
  have hz4 := hx4.size
  have hC9l := HC4.out.lt
  have hwz4 := HB4.out.size
  have HO4 := Lib.hid hown4
  clear hx4 hown4 KL
  obtain ⟨W5, hW5⟩ : ∃ W5, W5 = (w4.alloc (.cells #[.slice A4 t.goal.length c4, .int .i64 0, .int .i64 0] 88)).alloc (.cells #[.slice (some ⟨w4.heap.size, 0, none⟩) 1 1] 90) := ⟨_, rfl⟩
  have HB5 := Lib.hid (show Below w4.heap.size w4 W5 by rw [hW5]; exact ((Below.refl _ _).alloc (Nat.le_refl _) _).alloc (by simp) _)
  obtain ⟨H, hH⟩ : ∃ H, H = w4.heap.size + 1 := ⟨_, rfl⟩
  have HF4 := Lib.hid (show Fac w4 (LBad (w.heap.size + 1) C9 H (.slice none 0 0) (.slice (some ⟨w4.heap.size, 0, none⟩) 1 1)) A4 t.goal by
   obtain ⟨A', c', e, h⟩ := own_facV HO4.out (by omega) (bad := LBad (w.heap.size + 1) C9 H (.slice none 0 0) (.slice (some ⟨w4.heap.size, 0, none⟩) 1 1)) (fun g hg hb => by
    have h1 := HO4.out.lt g hg
    have h2 := HC3.out.lt
    rcases hb with hb | hb | hb | hb | hb
    ·omega
    ·omega
    ·omega
    ·simp [Value.ownBlock] at hb
    ·have : w4.heap.size = g := by simpa [Value.ownBlock] using hb
     omega)
   injection e with e1 _ _
   rw [e1]; exact h)
  have HM5 := Lib.hid (show LowM t p b w C9 H none 0 [] (some ⟨w4.heap.size, 0, none⟩) 1 [(⟨A4, c4, t.goal, 0, 0⟩ : En)] W5 from
   ⟨HB4.out.trans (HB5.out.mono hwz4), HX4.out.up HB5.out, HR4.out.up HB5.out, HC4.out.up HB5.out, World.ownsRow_nil _ _ _ _,
    ⟨by rw [hW5, hH]; exact BxI.new2 _ _ _ _, own_of_box (xs := [.slice A4 t.goal.length c4, .int .i64 0, .int .i64 0]) (R := []) (show BxI W5 w4.heap.size 88 #[.slice A4 t.goal.length c4, .int .i64 0, .int .i64 0] by rw [hW5]; exact (BxI.new _ _ _).up ((Below.refl _ _).alloc (Nat.le_refl _) _)) hwz4 rfl rfl (Nat.le_refl _) (by decide)⟩,
    (fun n hn => by cases hn), (fun e he => by simp at he; subst he; exact HF4.out.up HB5.out), hC9w, by rw [hH]; omega⟩)
  have HP5 := Lib.hid (show LowP t b noP [] [(⟨A4, c4, t.goal, 0, 0⟩ : En)] from LowP.start rfl rfl)
  have HN5 := Lib.hid (show HpN [(⟨A4, c4, t.goal, 0, 0⟩ : En)] 1 from fun i i0 i1 => by omega)
  go_wp2_with fail
  rw [← hW5, ← hH]
  have HW5 := Lib.hid hW5
  have HH := Lib.hid hH
  clear hW5 hH hC9l hz4
  go_loopg [11] ((M + 1) * (K + 1) + 1) (fun gg v11 wr => ∃ (NA : Option Addr) (nc : Nat) (ns : List Ngd) (A : Option Addr) (c : Nat) (es : List En) (q : Nat), v11 = .int .i64 q ∧ (ns.length : Int) ≤ lim ∧ es.length ≤ q ∧ q ≤ 9000000 ∧ Hid (q ≤ ns.length * K + 1) ∧ Hid ((M + 1 - ns.length) * (K + 1) + es.length ≤ gg) ∧ Hid (LowM t p b w C9 H NA nc ns A c es wr) ∧ Hid (LowP t b noP ns es) ∧ Hid (HpN es es.length))
  case atStart => exact ⟨none, 0, [], some ⟨w4.heap.size, 0, none⟩, 1, [(⟨A4, c4, t.goal, 0, 0⟩ : En)], 1, rfl, by simp; omega, by simp, by omega, Lib.hid (by simp), Lib.hid (by simp), HM5, HP5, HN5⟩
  case round =>
   clear HM5 HP5 HN5
   obtain ⟨NA, nc, ns, A, c, es, q, rfl, hnl, heq, hq9, HQ, HG, HMM, HP, HN⟩ := hrel
   obtain ⟨wt, rfl⟩ : ∃ wt : World, wt = wr := ⟨_, rfl⟩
   have h0 := HMM.out.hp.box.cell 0 (.slice A es.length c) rfl
   have hHl := HMM.out.hp.box.lt
   have KE := Lib.hid (elen_any A es.length c wt (by omega))
   go_wp2_with fail
   refine KE.out.mono ?_
   rintro e w6 ⟨rfl, e6⟩
   subst e6
   by_cases hel : es.length = 0
   ·have e1 : decide ((0 : Int) < es.length) = false := decide_eq_false (by omega)
    obtain rfl : es = [] := List.length_eq_zero_iff.1 hel
    have c0 := HMM.out.cbx.cell 0 (.int .i64 b) rfl
    have c1 := HMM.out.cbx.cell 1 (.slice NA ns.length nc) rfl
    have hCl := HMM.out.cbx.lt
    have r0 := HMM.out.rbx.cell 0 (.int .i64 0) rfl
    have r1 := HMM.out.rbx.cell 1 (.slice none 0 0) rfl
    have rf0 := HMM.out.rbx.fz 0
    have rf1 := HMM.out.rbx.fz 1
    have hRl := HMM.out.rbx.lt
    have HZ := Lib.hid (ret_cells (u := .int .i64 b) (v := .slice NA ns.length nc) HMM.out.rbx)
    have HBZ2 := Lib.hid (show Below w.heap.size w ((w6.setCell ⟨w.heap.size + 1, 0, none⟩ (.int .i64 b)).setCell ⟨w.heap.size + 1, 1, none⟩ (.slice NA ns.length nc)) from ret_below HMM.out.bel (by omega))
    have HNL := Lib.hid (HMM.out.ret (u := .int .i64 b) (v := .slice NA ns.length nc) (by omega))
    have HLC := Lib.hid (show LowC t b ns from ⟨HP.out.syn HR.out, chk_low HR.out hb0 hb1 (by omega) HP.out.nrch (.inl HBZ.out), HP.out.nrch, HP.out.nosub⟩)
    go_wp2
    have z0 := HZ.out.1
    have z1 := HZ.out.2
    refine bodyPost_ret (v := .tuple #[.agg #[.int .i64 b, .slice NA ns.length nc], .nilIface]) (by simp [results, Tryz.results12, go_sem, z0, z1]) rfl ⟨.inl ⟨NA, nc, ns, rfl, HNL.out, HLC.out⟩, HBZ2.out⟩
   ·have e1 : decide ((0 : Int) < es.length) = true := decide_eq_true (by omega)
    have KP := Lib.hid (hpop_any HMM.out.hp HN.out (by omega) (by omega))
    have hep : 0 < es.length := by omega
    clear hel
    go_wp2_with fail
    refine KP.out.mono ?_
    rintro e w7 ⟨x, es1, rfl, hh7, hn7, hl7, hm7, hmin7, hk7⟩
    have HMV := Lib.hid (HMM.out.moves (A' := A) (c' := c) (es' := es1) hk7 (.inl own_slice))
    have HM7 := Lib.hid (HMM.out.heap hh7 hk7 (.inl own_slice) (fun e he => HMM.out.efac e ((hm7 e).2 (.inl he))))
    have HFX := Lib.hid (show Fac w7 (LBad (w.heap.size + 1) C9 H (.slice NA ns.length nc) (.slice A es1.length c)) x.fa x.facts from (HMM.out.efac x ((hm7 x).2 (.inr rfl))).move HMV.out)
    have HRX := Lib.hid (HP.out.erch x ((hm7 x).2 (.inr rfl)))
    have HXF := Lib.hid (HRX.out.fa HR.out)
    have HN7 := Lib.hid hn7
    have HME := Lib.hid hm7
    have HMI := Lib.hid hmin7
    have HLX := Lib.hid hl7
    have hxl : x.facts.length ≤ 1000 := by have := fa_len HXF.out; have := HR.out.nv; omega
    have hes1 : es1.length ≤ q := by omega
    have hta := tas_any (.agg #[.slice x.fa x.facts.length x.fc, .int .i64 x.dist, .int .i64 x.ord]) w7
    obtain ⟨EB, hEB⟩ : ∃ EB, EB = w7.heap.size := ⟨_, rfl⟩
    obtain ⟨W8, hW8⟩ : ∃ W8, W8 = w7.alloc (.cells #[.slice x.fa x.facts.length x.fc, .int .i64 x.dist, .int .i64 x.ord] 88) := ⟨_, rfl⟩
    have HB8 := Lib.hid (show Below w7.heap.size w7 W8 by rw [hW8]; exact (Below.refl _ _).alloc (Nat.le_refl _) _)
    have HE8 := Lib.hid (show BxI W8 EB 88 #[.slice x.fa x.facts.length x.fc, .int .i64 x.dist, .int .i64 x.ord] by rw [hW8, hEB]; exact BxI.new _ _ _)
    have HM8 := Lib.hid (HM7.out.up HB8.out)
    have HFX8 := Lib.hid (HFX.out.up HB8.out)
    have HEN := Lib.hid (show (Value.slice A es1.length c).ownBlock ≠ some EB from fun e => by have := (HM7.out.hp.own.lt EB e).2; omega)
    have HNF := Lib.hid (fun m hm => (HP.out.nrch m hm).fa HR.out)
    have KC := Lib.hid (ccont_any t.vars x.facts ns x.fa NA x.fc nc W8 HFX8.out.at_ (HM8.out.nls (by omega)) HXF.out HNF.out)
    have c1 := HM7.out.cbx.cell 1 (.slice NA ns.length nc) rfl
    have hCl := HM7.out.cbx.lt
    have hz8 := HB8.out.size
    clear hh7 hn7 hl7 hm7 hmin7 hk7 KP KE h0 hHl hep e1
    go_wp2_with fail
    rw [← hW8, ← hEB]
    have HW8 := Lib.hid hW8
    have HEB := Lib.hid hEB
    clear hW8 hEB c1 hCl hta
    refine KC.out.mono ?_
    rintro e w9 ⟨rfl, hb9⟩
    have HB9 := Lib.hid hb9
    have HM9 := Lib.hid (HM8.out.up hb9)
    have HE9 := Lib.hid (HE8.out.up hb9)
    have HFX9 := Lib.hid (HFX8.out.up hb9)
    clear hb9 KC
    cases ecc : ccB x.facts ns
    ·have HNO := Lib.hid (show ¬ ∃ m ∈ ns, Sub m.l x.facts from fun h => by rw [(cc_iff HXF.out HNF.out).2 h] at ecc; cases ecc)
     have y0 := HE9.out.cell 0 (.slice x.fa x.facts.length x.fc) rfl
     have x1 := HM9.out.tbx.cell 1 (.slice p.ai t.init.length p.ci) rfl
     have hXl := HM9.out.tbx.lt
     have hEl := HE9.out.lt
     have KH := Lib.hid (holds_any x.facts t.init x.fa p.ai x.fc p.ci w9 HFX9.out.at_ (HT.out.init.up HM9.out.bel))
     clear ecc
     go_wp2_with fail
     refine KH.out.mono ?_
     rintro e w10 ⟨rfl, hb10⟩
     have HM10 := Lib.hid (HM9.out.up hb10)
     have HE10 := Lib.hid (HE9.out.up hb10)
     have HFX10 := Lib.hid (HFX9.out.up hb10)
     clear hb10 KH y0 x1 hXl hEl
     have c1 := HM10.out.cbx.cell 1 (.slice NA ns.length nc) rfl
     have hCl := HM10.out.cbx.lt
     cases ehi : hoB x.facts t.init
     ·have HHI := Lib.hid ehi
      clear ehi
      by_cases hfull : (ns.length : Int) = lim
      ·have e2 : ((ns.length : Int) == lim) = true := by simpa using hfull
       have r0 := HM10.out.rbx.cell 0 (.int .i64 0) rfl
       have r1 := HM10.out.rbx.cell 1 (.slice none 0 0) rfl
       have rf0 := HM10.out.rbx.fz 0
       have rf1 := HM10.out.rbx.fz 1
       have hRl := HM10.out.rbx.lt
       have HZ := Lib.hid (ret_cells (u := .int .i64 0) (v := .slice none 0 0) HM10.out.rbx)
       have HBZ2 := Lib.hid (show Below w.heap.size w ((w10.setCell ⟨w.heap.size + 1, 0, none⟩ (.int .i64 0)).setCell ⟨w.heap.size + 1, 1, none⟩ (.slice none 0 0)) from ret_below HM10.out.bel (by omega))
       have HFU := Lib.hid (show lim + 1 ≤ npV t.vars by have := HP.out.few1 HR.out HXF.out HNO.out; omega)
       clear hfull
       go_wp2
       have z0 := HZ.out.1
       have z1 := HZ.out.2
       refine bodyPost_ret (v := .tuple #[.agg #[.int .i64 0, .slice none 0 0], .iface 49 (.int .i64 10)]) (by simp [results, Tryz.results12, go_sem, z0, z1]) rfl ⟨.inr ⟨10, rfl, .inr (.inl ⟨rfl, HFU.out⟩)⟩, HBZ2.out⟩
      ·have e2 : ((ns.length : Int) == lim) = false := by simpa using hfull
       have y0 := HE10.out.cell 0 (.slice x.fa x.facts.length x.fc) rfl
       have y1 := HE10.out.cell 1 (.int .i64 x.dist) rfl
       have hEl := HE10.out.lt
       have HNL2 := Lib.hid (show ((ns.length + 1 : Nat) : Int) ≤ lim by omega)
       clear hfull
       go_wp2_with (at_builtin; refine wpList_append_src (by rfl) _ _ 39 (by rfl) w.heap.size 97 inf (.agg #[.slice none 0 0, .int .i64 0]) 2 32 sundN hinf iz0 iz1 iz2 rfl (by decide) (.slice NA ns.length nc) ns.length (ngC ns) (by rfl) (by exact HM10.out.row.alloc _) (some ⟨w10.heap.size, 0, none⟩) 1 1 [.slice x.fa x.facts.length x.fc, .int .i64 x.dist] (by rfl) (src_of (heap_alloc_new w10 _) rfl (by intro u hu; simp at hu; rcases hu with rfl | rfl <;> rfl)) (by unfold maxLen; omega) (by omega) (by first | omega | (simp; done) | (simp; omega)) ?_; intro v11 w11 hown11 hgrow11 hat11; obtain ⟨A11, c11, rfl⟩ := own_shape hown11; have HO11 := Lib.hid hown11; have HG11 := Lib.hid hgrow11; have HA11 := Lib.hid hat11; have HU11 := Lib.hid (show Below w10.heap.size w10 (w10.alloc (.cells #[.slice x.fa x.facts.length x.fc, .int .i64 x.dist] 97)) from (Below.refl _ _).alloc (Nat.le_refl _) _); have HC11 := Lib.hid (show BxI w11 C9 41 #[.int .i64 b, .slice NA ns.length nc] from BxI.grown (HM10.out.cbx.up HU11.out) HG11.out (own_ne_bx (HM10.out.up HU11.out).row (HM10.out.cbx.up HU11.out) (by decide))); have HX11 := Lib.hid (show BxI w11 w.heap.size 26 #[.slice p.av t.vars.length p.cv, .slice p.ai t.init.length p.ci, .slice p.ag t.goal.length p.cg, .slice p.ao t.ops.length p.co] from BxI.grown (HM10.out.tbx.up HU11.out) HG11.out (own_ne_bx (HM10.out.up HU11.out).row (HM10.out.tbx.up HU11.out) (by decide))); have k1 := HC11.out.cell 1 (.slice NA ns.length nc) rfl; have kf := HC11.out.fz 1; have hC11 := HC11.out.lt; have k3 := HX11.out.cell 3 (.slice p.ao t.ops.length p.co) rfl; have hX11 := HX11.out.lt; clear hown11 hgrow11 hat11)
       obtain ⟨ns1, hns1⟩ : ∃ ns1, ns1 = ns ++ [(⟨x.fa, x.fc, x.facts, x.dist⟩ : Ngd)] := ⟨_, rfl⟩
       have hn1l : ns1.length = ns.length + 1 := by rw [hns1]; simp
       obtain ⟨W12, hW12⟩ : ∃ W12, W12 = w11.setCell ⟨C9, 1, none⟩ (.slice A11 (ns.length + 1) c11) := ⟨_, rfl⟩
       rw [← hW12]
       have hadd := HM10.out.addN (n := ⟨x.fa, x.fc, x.facts, x.dist⟩) HU11.out HO11.out HG11.out HA11.out HFX10.out
       rw [← hW12, ← hns1] at hadd
       have HM12 := Lib.hid hadd.1
       have HE12 := Lib.hid (HE10.out.kb hadd.2 (fun e => e.elim (fun e => by have := HM7.out.cbx.lt; have := HEB.out; omega) (fun e => own_ne_bx HM10.out.row HE10.out (by decide) e.symm)))
       have HP12 := Lib.hid (show LowP t b (opP x.facts x.dist 0) ns1 es1 by rw [hns1]; exact HP.out.add HME.out HMI.out HNO.out HHI.out rfl rfl)
       have hsM : ns.length + 1 ≤ M := by rw [HM.out]; exact HP.out.few1 HR.out HXF.out HNO.out
       have HMX := Lib.hid (show ∀ n ∈ ns1, n.d ≤ x.dist from fun n hn => by
        rw [hns1] at hn
        rcases List.mem_append.1 hn with hn | hn
        ·exact HP.out.srt n hn x ((HME.out x).2 (.inr rfl))
        ·simp at hn; subst hn; exact Int.le_refl _)
       have HIN := Lib.hid (show (⟨x.fa, x.fc, x.facts, x.dist⟩ : Ngd) ∈ ns1 by rw [hns1]; simp)
       have HNS1 := Lib.hid hns1
       have HN1L := Lib.hid hn1l
       have HW12 := Lib.hid hW12
       have HXR := Lib.hid (HRX.out.rng HR.out HBZ.out)
       clear hW12 hadd hns1 hn1l k1 kf k3 hC11 hX11 y0 y1 hEl c1 hCl e2
       go_loopw [11, 90] (fun v11 v90 wr => ∃ (k : Nat) (A : Option Addr) (c : Nat) (es : List En) (q : Nat), v11 = .int .i64 q ∧ v90 = .int .i64 k ∧ k ≤ t.ops.length ∧ es.length ≤ q ∧ q ≤ 9000000 ∧ Hid (q ≤ ns.length * K + k * M + 1) ∧ Hid (es.length ≤ es1.length + k * M) ∧ Hid (LowM t p b w C9 H A11 c11 ns1 A c es wr) ∧ Hid (LowP t b (opP x.facts x.dist k) ns1 es) ∧ Hid (HpN es es.length) ∧ Hid (BxI wr EB 88 #[.slice x.fa x.facts.length x.fc, .int .i64 x.dist, .int .i64 x.ord]) ∧ Hid ((Value.slice A es.length c).ownBlock ≠ some EB)) (fun _ v90 _ => t.ops.length - (intOf v90).toNat)
       case atStart => exact ⟨0, A, c, es1, q, rfl, rfl, by omega, hes1, hq9, Lib.hid (by have := HQ.out; omega), Lib.hid (by omega), HM12, HP12, HN7, HE12, HEN⟩
       case round =>
        clear HM12 HP12 HN7 HE12 HEN
        obtain ⟨k, A2, c2, es2, q2, rfl, rfl, hk, heq2, hq29, HQ2, HL2, HM2, HP2, HN2, HE2, HEN2⟩ := hrel
        obtain ⟨wu, rfl⟩ : ∃ wu : World, wu = wr := ⟨_, rfl⟩
        by_cases hlt : k < t.ops.length
        ·obtain ⟨ob, oo, S, sc, T, tc, hoA, hob, d0, hnm, d1, d2, f2, d3, f3⟩ := HT.out.ops.at2 HM2.out.bel hlt
         have hcs := HR.out.cost k hlt
         have HRG := Lib.hid (fun W hW hF => regress_any t p k x.facts x.fa x.fc W hW hc hlt hF HXF.out)
         unfold TaskV at HRG
         obtain ⟨o, ho⟩ : ∃ o, o = opr t.ops k := ⟨_, rfl⟩
         rw [← ho] at d0 hnm d1 d2 f2 d3 f3 hcs HRG
         have HO := Lib.hid ho
         have hpl : o.pre.length ≤ 140737488355328 := f2.1
         have hel : o.effs.length ≤ 140737488355328 := f3.1
         have g1 : ob < wu.heap.size := by have := HM2.out.bel.size; omega
         obtain ⟨W13, hW13⟩ : ∃ W13, W13 = wu.alloc (.cells #[.string o.name, .int .i64 o.cost, .slice S o.pre.length sc, .slice T o.effs.length tc] 63) := ⟨_, rfl⟩
         have HB13 := Lib.hid (show Below wu.heap.size wu W13 by rw [hW13]; exact (Below.refl _ _).alloc (Nat.le_refl _) _)
         have HM13 := Lib.hid (HM2.out.up HB13.out)
         have HE13 := Lib.hid (HE2.out.up HB13.out)
         have y1 := HE2.out.cell 1 (.int .i64 x.dist) rfl
         have y0 := HE2.out.cell 0 (.slice x.fa x.facts.length x.fc) rfl
         have hEl := HE2.out.lt
         have x0 := HM2.out.tbx.cell 0 (.slice p.av t.vars.length p.cv) rfl
         have x1 := HM2.out.tbx.cell 1 (.slice p.ai t.init.length p.ci) rfl
         have x2 := HM2.out.tbx.cell 2 (.slice p.ag t.goal.length p.cg) rfl
         have x3 := HM2.out.tbx.cell 3 (.slice p.ao t.ops.length p.co) rfl
         have hXl := HM2.out.tbx.lt
         have hxr0 := HXR.out.1
         have HFR := Lib.hid (show FactsAt W13 W13.heap.size x.fa x.facts from (HM13.out.nfac _ HIN.out).at_)
         have KR := Lib.hid (HRG.out W13 (HT.out.up HM13.out.bel) HFR.out)
         rw [hoA]
         clear hoA hob f2 f3 ho HRG
         by_cases hbn : b < 0
         ·have e0 : decide (b < 0) = true := decide_eq_true hbn
          have hx0 : x.dist = 0 := HXR.out.2.1 hbn
          have q1 : IntKind.i64.wrap (x.dist + o.cost) = x.dist + o.cost := IntWalk.i64_in _ (by omega)
          have HDX := Lib.hid (show dsX b x.dist (opr t.ops k).cost = 0 by unfold dsX; rw [if_pos hbn])
          have HCN := Lib.hid (show Cnt b x.dist (opr t.ops k).cost from .inl hbn)
          have HX0 := Lib.hid hx0
          clear hx0
          go_wp2_with fail
          rw [← hW13]
          have HW13 := Lib.hid hW13
          clear hW13 d0 d1 d2 d3 y0 y1 x0 x1 x2 x3 q1 e0 hnm
          refine KR.out.mono ?_
          rintro e w14 ⟨hcs14, hb14⟩
          have HB14 := Lib.hid hb14
          have HM14 := Lib.hid (HM13.out.up hb14)
          have HE14 := Lib.hid (HE13.out.up hb14)
          obtain ⟨A3, c3, os, ec, rfl, hcase⟩ := listRet_alt hcs14
          have HCASE := Lib.hid hcase
          clear hb14 hcs14 hcase KR
          by_cases hec : ec = 0
          ·subst hec
           obtain ⟨_, horl, hnd, hme, hff, hol⟩ := HCASE.out.resolve_right (fun h => absurd h.1 (by decide))
           have HMEO := Lib.hid hme
           have HFFO := Lib.hid hff
           have holn := np_bound hnd hff
           rw [hls_len, ← HM.out] at holn
           have HRL := Lib.hid (show Rls w14 (LBad (w.heap.size + 1) C9 H (.slice A11 ns1.length c11) (.slice A2 es2.length c2)) A3 os from Orl.rls ⟨horl.own, fun y hy => (horl.fac y hy).sub (fun b _ hb => .inl (lbad_lt HM13.out hb))⟩ (by omega) (fun b off e hb => by
            subst e
            have h1 := (horl.own.lt b rfl).1
            have h2 := lbad_lt HM13.out hb
            omega))
           have HPI := Lib.hid (show LowP t b (inP x.facts x.dist k (hls os) 0) ns1 es2 from HP2.out.enter)
           rw [erV_0]
           clear horl hnd hme hff HCASE
           go_wp2_with fail
           go_loopw [11, 119] (fun v11 v119 wr => ∃ (m : Nat) (A : Option Addr) (c : Nat) (es : List En) (q : Nat), v11 = .int .i64 q ∧ v119 = .int .i64 m ∧ m ≤ os.length ∧ es.length ≤ q ∧ q ≤ 9000000 ∧ Hid (q ≤ ns.length * K + k * M + m + 1) ∧ Hid (es.length ≤ es1.length + k * M + m) ∧ Hid (LowM t p b w C9 H A11 c11 ns1 A c es wr) ∧ Hid (LowP t b (inP x.facts x.dist k (hls os) m) ns1 es) ∧ Hid (HpN es es.length) ∧ Hid (BxI wr EB 88 #[.slice x.fa x.facts.length x.fc, .int .i64 x.dist, .int .i64 x.ord]) ∧ Hid ((Value.slice A es.length c).ownBlock ≠ some EB) ∧ Hid (Rls wr (LBad (w.heap.size + 1) C9 H (.slice A11 ns1.length c11) (.slice A es.length c)) A3 os)) (fun _ v119 _ => os.length - (intOf v119).toNat)
           case atStart => exact ⟨0, A2, c2, es2, q2, rfl, rfl, by omega, heq2, hq29, Lib.hid (by have := HQ2.out; omega), Lib.hid (by have := HL2.out; omega), HM14, HPI, HN2, HE14, HEN2, HRL⟩
           case round =>
            clear HM14 HPI HE14 HRL
            obtain ⟨m, A4', c4', es4, q4, rfl, rfl, hm, heq4, hq49, HQ4, HL4, HM4, HP4, HN4, HE4, HEN4, HRL4⟩ := hrel
            obtain ⟨wv, rfl⟩ : ∃ wv : World, wv = wr := ⟨_, rfl⟩
            by_cases hlt2 : m < os.length
            ·obtain ⟨b1, o1, hA1, hb1', _, hc1⟩ := HRL4.out.at_ hlt2
             have dd := hc1 m hlt2
             have hfz := HRL4.out.fac hlt2
             have hgz := hls_hd hlt2
             obtain ⟨z, hz⟩ : ∃ z, z = hd os m := ⟨_, rfl⟩
             rw [← hz] at dd hfz hgz
             have HZF := Lib.hid (show faB t.vars z.l = true from HFFO.out z.l (by rw [hz]; exact List.mem_map.2 ⟨_, hd_mem hlt2, rfl⟩))
             have HZR := Lib.hid (show RegS t.vars (opr t.ops k) x.facts z.l by rw [← HO.out]; exact (HMEO.out z.l).1 (by rw [hz]; exact List.mem_map.2 ⟨_, hd_mem hlt2, rfl⟩))
             have hzl : z.l.length ≤ 1000 := by have := fa_len HZF.out; have := HR.out.nv; omega
             have HFZ := Lib.hid hfz
             have HGZ := Lib.hid hgz
             have hq48 : q4 + 1 ≤ 9000000 := by
              have h1 := HQ4.out
              have h2 := low_q (m := m + 1) HK.out hsM hlt (by omega) HBIG.out
              omega
             have KPU := Lib.hid (hpush_any HM4.out.hp HN4.out (⟨z.a, z.c, z.l, 0, (q4 : Int)⟩ : En) (by omega) HM4.out.bel.size (by show z.l.length ≤ 1000000; omega))
             dsimp only at KPU
             have HA1 := Lib.hid hA1
             rw [hA1]
             clear hc1 hz hfz hgz hA1
             go_wp2_with fail
             refine KPU.out.mono ?_
             rintro e w16 ⟨rfl, es5, ⟨A5, c5, hh5, hk5, hat5⟩, hn5, hl5, hm5⟩
             have HM5 := Lib.hid (HM4.out.heap hh5 hk5 hat5 (fun y hy => by
              rcases (hm5 y).1 hy with h | h
              ·exact HM4.out.efac y h
              ·rw [h]; exact HFZ.out))
             have HRL5 := Lib.hid (HRL4.out.move (HM4.out.moves hk5 hat5))
             have HE5 := Lib.hid (HE4.out.kb hk5 (fun e => e.elim (fun e => by have h1 := HM7.out.hp.box.lt; have h2 := HEB.out; omega) HEN4.out))
             have HEN5 := Lib.hid (show (Value.slice A5 es5.length c5).ownBlock ≠ some EB from fun e => by
              rcases hat5 with e2 | ⟨g, hg, e2⟩
              ·rw [e2] at e; exact HEN4.out e
              ·rw [e2] at e; injection e with e; have := HE4.out.lt; omega)
             have HN5 := Lib.hid hn5
             have HP5 := Lib.hid (show LowP t b (inP x.facts x.dist k (hls os) (m + 1)) ns1 es5 from HP4.out.push HR.out HBZ.out (by rw [hls_len]; exact hlt2) HRX.out hlt HCN.out (by rw [HGZ.out]; exact HZR.out) hm5 (by rw [HGZ.out]) HDX.out.symm HMX.out)
             have hes5 : es5.length ≤ q4 + 1 := by omega
             have HQ5 := Lib.hid (show q4 + 1 ≤ ns.length * K + k * M + (m + 1) + 1 by have := HQ4.out; omega)
             have HL5 := Lib.hid (show es5.length ≤ es1.length + k * M + (m + 1) by have := HL4.out; omega)
             clear hh5 hk5 hat5 hn5 hl5 hm5 KPU dd
             go_wp2
             go_roundw
             case rel => exact ⟨m + 1, A5, c5, es5, q4 + 1, by go_num, by go_num, by omega, hes5, hq48, HQ5, HL5, HM5, HP5, HN5, HE5, HEN5, Lib.hid (by have h := HRL5.out; rw [HA1.out] at h; exact h)⟩
             case measure => simp [intOf]; omega
            ·obtain rfl : m = os.length := by omega
             have HPL := Lib.hid (show LowP t b (opP x.facts x.dist (k + 1)) ns1 es4 from LowP.leave (L := hls os) (by rw [hls_len]; exact HP4.out) (fun z hz => (HMEO.out z).2 (by rw [HO.out]; exact hz)))
             have HQ5 := Lib.hid (show q4 ≤ ns.length * K + (k + 1) * M + 1 by have := HQ4.out; rw [Nat.add_mul k 1 M, Nat.one_mul]; omega)
             have HL5 := Lib.hid (show es4.length ≤ es1.length + (k + 1) * M by have := HL4.out; rw [Nat.add_mul k 1 M, Nat.one_mul]; omega)
             go_wp2
             go_roundw
             case rel => exact ⟨k + 1, A4', c4', es4, q4, rfl, by go_num, by omega, heq4, hq49, HQ5, HL5, HM4, HPL, HN4, HE4, HEN4⟩
             case measure => simp [intOf]; omega
          ·have HC5 := Lib.hid (HCASE.out.resolve_left (fun h => hec h.1))
           obtain rfl : ec = 5 := HC5.out.1
           have r0 := HM14.out.rbx.cell 0 (.int .i64 0) rfl
           have r1 := HM14.out.rbx.cell 1 (.slice none 0 0) rfl
           have rf0 := HM14.out.rbx.fz 0
           have rf1 := HM14.out.rbx.fz 1
           have hRl := HM14.out.rbx.lt
           have HZ := Lib.hid (ret_cells (u := .int .i64 0) (v := .slice none 0 0) HM14.out.rbx)
           have HBZ2 := Lib.hid (show Below w.heap.size w ((w14.setCell ⟨w.heap.size + 1, 0, none⟩ (.int .i64 0)).setCell ⟨w.heap.size + 1, 1, none⟩ (.slice none 0 0)) from ret_below HM14.out.bel (by omega))
           rw [erV_nz (show (5 : Int) ≠ 0 by decide)]
           go_wp2
           have z0 := HZ.out.1
           have z1 := HZ.out.2
           refine bodyPost_ret (v := .tuple #[.agg #[.int .i64 0, .slice none 0 0], .iface 49 (.int .i64 5)]) (by simp [results, Tryz.results12, go_sem, z0, z1]) rfl ⟨.inr ⟨5, rfl, .inr (.inr ⟨rfl, HC5.out.2.2⟩)⟩, HBZ2.out⟩
         ·have e0 : decide (b < 0) = false := decide_eq_false hbn
          have hxb := HXR.out.2.2 (by omega)
          have q1 : IntKind.i64.wrap (x.dist + o.cost) = x.dist + o.cost := IntWalk.i64_in _ (by omega)
          by_cases hdb : b ≤ x.dist + o.cost
          ·have e3 : decide (b ≤ x.dist + o.cost) = true := decide_eq_true hdb
           have HPS := Lib.hid (show LowP t b (opP x.facts x.dist (k + 1)) ns1 es2 from HP2.out.opskip (by unfold Cnt; rw [← HO.out]; omega))
           have hq4 : q2 ≤ ns.length * K + (k + 1) * M + 1 := by have := HQ2.out; rw [Nat.add_mul k 1 M, Nat.one_mul]; omega
           have hl4 : es2.length ≤ es1.length + (k + 1) * M := by have := HL2.out; rw [Nat.add_mul k 1 M, Nat.one_mul]; omega
           have HQ4 := Lib.hid hq4
           have HL4 := Lib.hid hl4
           clear hdb hq4 hl4
           go_wp2
           go_roundw
           case rel => exact ⟨k + 1, A2, c2, es2, q2, rfl, by go_num, by omega, heq2, hq29, HQ4, HL4, Lib.hid (by have h := HM13.out; rw [hW13] at h; exact h), HPS, HN2, Lib.hid (by have h := HE13.out; rw [hW13] at h; exact h), HEN2⟩
           case measure => simp [intOf]; omega
          ·have e3 : decide (b ≤ x.dist + o.cost) = false := decide_eq_false hdb
           obtain ⟨dv, hdv⟩ : ∃ dv, dv = x.dist + o.cost := ⟨_, rfl⟩
           have HDX := Lib.hid (show dsX b x.dist (opr t.ops k).cost = dv by unfold dsX; rw [if_neg (by omega), ← HO.out, hdv])
           have HCN := Lib.hid (show Cnt b x.dist (opr t.ops k).cost from .inr (by rw [← HO.out]; omega))
           have HDV := Lib.hid hdv
           clear hdv
           go_wp2_with fail
           rw [← hW13, ← HDV.out]
           have HW13 := Lib.hid hW13
           clear hW13 d0 d1 d2 d3 y0 y1 x0 x1 x2 x3 q1 e0 e3 hnm hdb
           refine KR.out.mono ?_
           rintro e w14 ⟨hcs14, hb14⟩
           have HB14 := Lib.hid hb14
           have HM14 := Lib.hid (HM13.out.up hb14)
           have HE14 := Lib.hid (HE13.out.up hb14)
           obtain ⟨A3, c3, os, ec, rfl, hcase⟩ := listRet_alt hcs14
           have HCASE := Lib.hid hcase
           clear hb14 hcs14 hcase KR
           by_cases hec : ec = 0
           ·subst hec
            obtain ⟨_, horl, hnd, hme, hff, hol⟩ := HCASE.out.resolve_right (fun h => absurd h.1 (by decide))
            have HMEO := Lib.hid hme
            have HFFO := Lib.hid hff
            have holn := np_bound hnd hff
            rw [hls_len, ← HM.out] at holn
            have HRL := Lib.hid (show Rls w14 (LBad (w.heap.size + 1) C9 H (.slice A11 ns1.length c11) (.slice A2 es2.length c2)) A3 os from Orl.rls ⟨horl.own, fun y hy => (horl.fac y hy).sub (fun b _ hb => .inl (lbad_lt HM13.out hb))⟩ (by omega) (fun b off e hb => by
             subst e
             have h1 := (horl.own.lt b rfl).1
             have h2 := lbad_lt HM13.out hb
             omega))
            have HPI := Lib.hid (show LowP t b (inP x.facts x.dist k (hls os) 0) ns1 es2 from HP2.out.enter)
            rw [erV_0]
            clear horl hnd hme hff HCASE
            go_wp2_with fail
            go_loopw [11, 119] (fun v11 v119 wr => ∃ (m : Nat) (A : Option Addr) (c : Nat) (es : List En) (q : Nat), v11 = .int .i64 q ∧ v119 = .int .i64 m ∧ m ≤ os.length ∧ es.length ≤ q ∧ q ≤ 9000000 ∧ Hid (q ≤ ns.length * K + k * M + m + 1) ∧ Hid (es.length ≤ es1.length + k * M + m) ∧ Hid (LowM t p b w C9 H A11 c11 ns1 A c es wr) ∧ Hid (LowP t b (inP x.facts x.dist k (hls os) m) ns1 es) ∧ Hid (HpN es es.length) ∧ Hid (BxI wr EB 88 #[.slice x.fa x.facts.length x.fc, .int .i64 x.dist, .int .i64 x.ord]) ∧ Hid ((Value.slice A es.length c).ownBlock ≠ some EB) ∧ Hid (Rls wr (LBad (w.heap.size + 1) C9 H (.slice A11 ns1.length c11) (.slice A es.length c)) A3 os)) (fun _ v119 _ => os.length - (intOf v119).toNat)
            case atStart => exact ⟨0, A2, c2, es2, q2, rfl, rfl, by omega, heq2, hq29, Lib.hid (by have := HQ2.out; omega), Lib.hid (by have := HL2.out; omega), HM14, HPI, HN2, HE14, HEN2, HRL⟩
            case round =>
             clear HM14 HPI HE14 HRL
             obtain ⟨m, A4', c4', es4, q4, rfl, rfl, hm, heq4, hq49, HQ4, HL4, HM4, HP4, HN4, HE4, HEN4, HRL4⟩ := hrel
             obtain ⟨wv, rfl⟩ : ∃ wv : World, wv = wr := ⟨_, rfl⟩
             by_cases hlt2 : m < os.length
             ·obtain ⟨b1, o1, hA1, hb1', _, hc1⟩ := HRL4.out.at_ hlt2
              have dd := hc1 m hlt2
              have hfz := HRL4.out.fac hlt2
              have hgz := hls_hd hlt2
              obtain ⟨z, hz⟩ : ∃ z, z = hd os m := ⟨_, rfl⟩
              rw [← hz] at dd hfz hgz
              have HZF := Lib.hid (show faB t.vars z.l = true from HFFO.out z.l (by rw [hz]; exact List.mem_map.2 ⟨_, hd_mem hlt2, rfl⟩))
              have HZR := Lib.hid (show RegS t.vars (opr t.ops k) x.facts z.l by rw [← HO.out]; exact (HMEO.out z.l).1 (by rw [hz]; exact List.mem_map.2 ⟨_, hd_mem hlt2, rfl⟩))
              have hzl : z.l.length ≤ 1000 := by have := fa_len HZF.out; have := HR.out.nv; omega
              have HFZ := Lib.hid hfz
              have HGZ := Lib.hid hgz
              have hq48 : q4 + 1 ≤ 9000000 := by
               have h1 := HQ4.out
               have h2 := low_q (m := m + 1) HK.out hsM hlt (by omega) HBIG.out
               omega
              have KPU := Lib.hid (hpush_any HM4.out.hp HN4.out (⟨z.a, z.c, z.l, dv, (q4 : Int)⟩ : En) (by omega) HM4.out.bel.size (by show z.l.length ≤ 1000000; omega))
              dsimp only at KPU
              have HA1 := Lib.hid hA1
              rw [hA1]
              clear hc1 hz hfz hgz hA1
              go_wp2_with fail
              refine KPU.out.mono ?_
              rintro e w16 ⟨rfl, es5, ⟨A5, c5, hh5, hk5, hat5⟩, hn5, hl5, hm5⟩
              have HM5 := Lib.hid (HM4.out.heap hh5 hk5 hat5 (fun y hy => by
               rcases (hm5 y).1 hy with h | h
               ·exact HM4.out.efac y h
               ·rw [h]; exact HFZ.out))
              have HRL5 := Lib.hid (HRL4.out.move (HM4.out.moves hk5 hat5))
              have HE5 := Lib.hid (HE4.out.kb hk5 (fun e => e.elim (fun e => by have h1 := HM7.out.hp.box.lt; have h2 := HEB.out; omega) HEN4.out))
              have HEN5 := Lib.hid (show (Value.slice A5 es5.length c5).ownBlock ≠ some EB from fun e => by
               rcases hat5 with e2 | ⟨g, hg, e2⟩
               ·rw [e2] at e; exact HEN4.out e
               ·rw [e2] at e; injection e with e; have := HE4.out.lt; omega)
              have HN5 := Lib.hid hn5
              have HP5 := Lib.hid (show LowP t b (inP x.facts x.dist k (hls os) (m + 1)) ns1 es5 from HP4.out.push HR.out HBZ.out (by rw [hls_len]; exact hlt2) HRX.out hlt HCN.out (by rw [HGZ.out]; exact HZR.out) hm5 (by rw [HGZ.out]) HDX.out.symm HMX.out)
              have hes5 : es5.length ≤ q4 + 1 := by omega
              have HQ5 := Lib.hid (show q4 + 1 ≤ ns.length * K + k * M + (m + 1) + 1 by have := HQ4.out; omega)
              have HL5 := Lib.hid (show es5.length ≤ es1.length + k * M + (m + 1) by have := HL4.out; omega)
              clear hh5 hk5 hat5 hn5 hl5 hm5 KPU dd
              go_wp2
              go_roundw
              case rel => exact ⟨m + 1, A5, c5, es5, q4 + 1, by go_num, by go_num, by omega, hes5, hq48, HQ5, HL5, HM5, HP5, HN5, HE5, HEN5, Lib.hid (by have h := HRL5.out; rw [HA1.out] at h; exact h)⟩
              case measure => simp [intOf]; omega
             ·obtain rfl : m = os.length := by omega
              have HPL := Lib.hid (show LowP t b (opP x.facts x.dist (k + 1)) ns1 es4 from LowP.leave (L := hls os) (by rw [hls_len]; exact HP4.out) (fun z hz => (HMEO.out z).2 (by rw [HO.out]; exact hz)))
              have HQ5 := Lib.hid (show q4 ≤ ns.length * K + (k + 1) * M + 1 by have := HQ4.out; rw [Nat.add_mul k 1 M, Nat.one_mul]; omega)
              have HL5 := Lib.hid (show es4.length ≤ es1.length + (k + 1) * M by have := HL4.out; rw [Nat.add_mul k 1 M, Nat.one_mul]; omega)
              go_wp2
              go_roundw
              case rel => exact ⟨k + 1, A4', c4', es4, q4, rfl, by go_num, by omega, heq4, hq49, HQ5, HL5, HM4, HPL, HN4, HE4, HEN4⟩
              case measure => simp [intOf]; omega
           ·have HC5 := Lib.hid (HCASE.out.resolve_left (fun h => hec h.1))
            obtain rfl : ec = 5 := HC5.out.1
            have r0 := HM14.out.rbx.cell 0 (.int .i64 0) rfl
            have r1 := HM14.out.rbx.cell 1 (.slice none 0 0) rfl
            have rf0 := HM14.out.rbx.fz 0
            have rf1 := HM14.out.rbx.fz 1
            have hRl := HM14.out.rbx.lt
            have HZ := Lib.hid (ret_cells (u := .int .i64 0) (v := .slice none 0 0) HM14.out.rbx)
            have HBZ2 := Lib.hid (show Below w.heap.size w ((w14.setCell ⟨w.heap.size + 1, 0, none⟩ (.int .i64 0)).setCell ⟨w.heap.size + 1, 1, none⟩ (.slice none 0 0)) from ret_below HM14.out.bel (by omega))
            rw [erV_nz (show (5 : Int) ≠ 0 by decide)]
            go_wp2
            have z0 := HZ.out.1
            have z1 := HZ.out.2
            refine bodyPost_ret (v := .tuple #[.agg #[.int .i64 0, .slice none 0 0], .iface 49 (.int .i64 5)]) (by simp [results, Tryz.results12, go_sem, z0, z1]) rfl ⟨.inr ⟨5, rfl, .inr (.inr ⟨rfl, HC5.out.2.2⟩)⟩, HBZ2.out⟩
        ·obtain rfl : k = t.ops.length := by omega
         have HPD := Lib.hid (HP2.out.done)
         have HQ4 := Lib.hid (show q2 ≤ ns1.length * K + 1 by have := HQ2.out; rw [HN1L.out, Nat.add_mul ns.length 1 K, Nat.one_mul]; have h5 := HK.out; rw [← h5] at this; exact this)
         go_wp2
         go_roundg ((M + 1 - ns1.length) * (K + 1) + es2.length)
         case measure => rw [HN1L.out]; exact low_g hsM HG.out HLX.out (by have := HL2.out; rw [HK.out]; exact this)
         case rel => exact ⟨A11, c11, ns1, A2, c2, es2, q2, rfl, by rw [HN1L.out]; exact HNL2.out, heq2, hq29, HQ4, Lib.hid (Nat.le_refl _), HM2, HPD, HN2⟩
     ·have r0 := HM10.out.rbx.cell 0 (.int .i64 0) rfl
      have r1 := HM10.out.rbx.cell 1 (.slice none 0 0) rfl
      have rf0 := HM10.out.rbx.fz 0
      have rf1 := HM10.out.rbx.fz 1
      have hRl := HM10.out.rbx.lt
      have HZ := Lib.hid (ret_cells (u := .int .i64 0) (v := .slice none 0 0) HM10.out.rbx)
      have HBZ2 := Lib.hid (show Below w.heap.size w ((w10.setCell ⟨w.heap.size + 1, 0, none⟩ (.int .i64 0)).setCell ⟨w.heap.size + 1, 1, none⟩ (.slice none 0 0)) from ret_below HM10.out.bel (by omega))
      have HPL := Lib.hid (show ∃ c, PlanC t t.init c ∧ (b < 0 ∨ c < b) by
       obtain ⟨cc, h1, h2⟩ := HRX.out.plan HR.out t.init HR.out.init ehi
       have h3 := HRX.out.rng HR.out HBZ.out
       exact ⟨cc, h1, by omega⟩)
      go_wp2
      have z0 := HZ.out.1
      have z1 := HZ.out.2
      refine bodyPost_ret (v := .tuple #[.agg #[.int .i64 0, .slice none 0 0], .iface 49 (.int .i64 13)]) (by simp [results, Tryz.results12, go_sem, z0, z1]) rfl ⟨.inr ⟨13, rfl, .inl ⟨rfl, HPL.out⟩⟩, HBZ2.out⟩
    ·have HSK := Lib.hid (show LowP t b noP ns es1 from HP.out.skip HME.out ((cc_iff HXF.out HNF.out).1 ecc))
     clear ecc
     go_wp2
     go_roundg ((M + 1 - ns.length) * (K + 1) + es1.length)
     case measure => have := HG.out; have := HLX.out; omega
     case rel => exact ⟨NA, nc, ns, A, c, es1, q, rfl, hnl, hes1, hq9, HQ, Lib.hid (Nat.le_refl _), HM9, HSK, HN7⟩
end Go.Proofs.YtlkebhiaimijiaaGreatDoor

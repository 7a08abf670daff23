/- checker.Where and Verify, walked. -/
import Derived.Test.YtlkebhiaimijiaaGreatDoorVcC
namespace Go.Proofs.YtlkebhiaimijiaaGreatDoor
set_option linter.unusedSimpArgs false
set_option linter.unusedVariables false
open Go Go.RowKit
set_option linter.unusedVariables false

def nogs (ns : List Ngd) : List Nog := ns.map fun m => ⟨m.l, m.d⟩
theorem nogs_mem {ns : List Ngd} {n : Nog} : n ∈ nogs ns ↔ ∃ m ∈ ns, n = ⟨m.l, m.d⟩ := by
 unfold nogs
 rw [List.mem_map]
 constructor
 ·rintro ⟨m, h, rfl⟩; exact ⟨m, h, rfl⟩
 ·rintro ⟨m, h, rfl⟩; exact ⟨m, h, rfl⟩
def StepOk (t : Tsk) (b : Int) (ns : List Ngd) (m k : Nat) : Prop :=
 Cnt b (ng ns m).d (opr t.ops k).cost → ∀ z, RegS t.vars (opr t.ops k) (ng ns m).l z → CovP t.vars z (hls (cntL ns (dsX b (ng ns m).d (opr t.ops k).cost) ns.length))
theorem ve_cert {t : Tsk} {b : Int} {ns : List Ngd} (hr : Right t) (hf : ∀ m ∈ ns, faB t.vars m.l = true) (hni : ∀ k, k < ns.length → hoB (ng ns k).l t.init = false)
  (hg : b ≠ 0 → CovP t.vars t.goal (hls (cntL ns 0 ns.length))) (hs : ∀ m, m < ns.length → ∀ k, k < t.ops.length → StepOk t b ns m k) : CertOk t b (nogs ns) where
 ninit := fun n hn => by
  obtain ⟨m, hm, rfl⟩ := nogs_mem.1 hn
  obtain ⟨k, hk, rfl⟩ := mem_ng hm
  exact hni k hk
 goal := fun hb s hst hgs => by
  obtain ⟨y, hy, h2⟩ := hg hb s hst hgs
  obtain ⟨m, hm, h3, rfl⟩ := cntL_mem.1 hy
  exact ⟨_, nogs_mem.2 ⟨m, hm, rfl⟩, h3, h2⟩
 step := fun n hn k hk hc s hst hpre hn2 => by
  obtain ⟨m, hm, rfl⟩ := nogs_mem.1 hn
  obtain ⟨i, hi, rfl⟩ := mem_ng hm
  obtain ⟨z, hz, hzs⟩ := (has_reg (op_ok hr hk) (hf _ hm) hst).2 ⟨hpre, hn2⟩
  obtain ⟨y, hy, h2⟩ := hs i hi k hk hc z hz s hst hzs
  obtain ⟨m', hm', h3, rfl⟩ := cntL_mem.1 hy
  exact ⟨_, nogs_mem.2 ⟨m', hm', rfl⟩, h3, h2⟩
/-- A certificate of the lists of the regressions, and steps enough. -/
structure Full (t : Tsk) (b : Int) (ns : List Ngd) (steps : Int) : Prop where
 np : npV t.vars ≤ 1024
 syn : SynOk t b (nogs ns)
 many : (((ns.length * t.ops.length + 1) * npV t.vars + 1 : Nat) : Int) < steps
theorem Full.step {t : Tsk} {b : Int} {ns : List Ngd} {steps : Int} (h : Full t b ns steps) {m k : Nat} (hm : m < ns.length) (hk : k < t.ops.length) :
  Cnt b (ng ns m).d (opr t.ops k).cost → ∀ z, RegS t.vars (opr t.ops k) (ng ns m).l z → ∃ y ∈ ns, y.d ≤ dsX b (ng ns m).d (opr t.ops k).cost ∧ Sub y.l z := fun hc z hz => by
 obtain ⟨n, hn, h1, h2⟩ := h.syn.step ⟨(ng ns m).l, (ng ns m).d⟩ (nogs_mem.2 ⟨_, ng_mem hm, rfl⟩) k hk hc z hz
 obtain ⟨y, hy, rfl⟩ := nogs_mem.1 hn
 exact ⟨y, hy, h1, h2⟩
theorem Full.left {t : Tsk} {b : Int} {ns : List Ngd} {steps s : Int} (h : Full t b ns steps) {j : Nat} (hj : j + 1 ≤ ns.length * t.ops.length) (hs : steps - 1 - ((j * npV t.vars : Nat) : Int) ≤ s) : (npV t.vars : Int) < s := by
 have h1 := Nat.mul_le_mul_right (npV t.vars) hj
 have h2 := h.many
 have h3 : (ns.length * t.ops.length + 1) * npV t.vars = ns.length * t.ops.length * npV t.vars + npV t.vars := by rw [Nat.add_mul, Nat.one_mul]
 have h4 : (j + 1) * npV t.vars = j * npV t.vars + npV t.vars := by rw [Nat.add_mul, Nat.one_mul]
 rw [h3] at h2
 omega
/-- What is said of the error. -/
def VeOk (t : Tsk) (b : Int) (ns : List Ngd) (steps ec : Int) : Prop := (ec = 0 → chkN b ns = 0 ∧ CertOk t b (nogs ns)) ∧ (Full t b ns steps → chkN b ns = 0 → ec = 0)
theorem ve_bad {t : Tsk} {b : Int} {ns : List Ngd} {steps ec : Int} (h0 : ec ≠ 0) (h : Full t b ns steps → chkN b ns = 0 → False) : VeOk t b ns steps ec := ⟨fun e => absurd e h0, fun h1 h2 => (h h1 h2).elim⟩
theorem chk_of {b : Int} {ns : List Ngd} (h : chkN b ns = 0) : -1 ≤ b ∧ b ≤ 1099511627776 ∧ ns.length ≤ 4096 ∧ ∀ k, k < ns.length → 0 ≤ (ng ns k).d ∧ (0 ≤ b → (ng ns k).d < b) ∧ (b < 0 → (ng ns k).d = 0) := by
 unfold chkN at h
 split at h
 ·cases h
 ·split at h
  ·cases h
  ·split at h
   ·cases h
   ·split at h
    ·cases h
    ·rename_i h1 h2 h3 h4
     rw [Bool.not_eq_true, anyB_false] at h4
     refine ⟨by omega, by omega, by omega, fun k hk => ?_⟩
     have := h4 k hk
     unfold dsB at this
     simp only [Bool.or_eq_false_iff, Bool.and_eq_false_iff, decide_eq_false_iff_not, Bool.not_eq_false', decide_eq_true_eq] at this
     omega
theorem prp_of {vars : List Int} {b : Int} {ns : List Ngd} (h : prpN vars b ns = 0) : chkN b ns = 0 ∧ ∀ m ∈ ns, faB vars m.l = true := by
 unfold prpN at h
 split at h
 ·rename_i h0
  split at h
  ·cases h
  ·rename_i h1
   rw [Bool.not_eq_true, anyB_false] at h1
   refine ⟨h0, fun m hm => ?_⟩
   obtain ⟨k, hk, rfl⟩ := mem_ng hm
   simpa using h1 k hk
 ·exact absurd h ‹_›
theorem prp_ok {vars : List Int} {b : Int} {ns : List Ngd} (h0 : chkN b ns = 0) (h : ∀ m ∈ ns, faB vars m.l = true) : prpN vars b ns = 0 := by
 unfold prpN
 rw [if_pos h0, if_neg]
 rw [Bool.not_eq_true, anyB_false]
 intro k hk
 rw [h _ (ng_mem hk)]; rfl
theorem Full.fa {t : Tsk} {b : Int} {ns : List Ngd} {steps : Int} (h : Full t b ns steps) : ∀ m ∈ ns, faB t.vars m.l = true := fun m hm => h.syn.fa ⟨m.l, m.d⟩ (nogs_mem.2 ⟨m, hm, rfl⟩)
theorem Full.cov {t : Tsk} {b : Int} {ns : List Ngd} {steps : Int} (h : Full t b ns steps) (hb : b ≠ 0) : ∃ y ∈ hls (cntL ns 0 ns.length), Sub y t.goal := by
 obtain ⟨n, hn, h1, h2⟩ := h.syn.goal hb
 obtain ⟨y, hy, rfl⟩ := nogs_mem.1 hn
 exact ⟨_, cntL_mem.2 ⟨y, hy, h1, rfl⟩, h2⟩

set_option maxRecDepth 20000 in
set_option maxHeartbeats 32000000 in
theorem where_any (t : Tsk) (p : Lies) (b : Int) (A : Option Addr) (ns : List Ngd) (c : Nat) (steps : Int) (w : World) (ht : TaskAt w w.heap.size t p) (hc : chkC t = 0) (hn : Nls w (fun _ => False) A ns) (hs0 : 0 ≤ steps) (hs1 : steps ≤ 1048576) :
  Calls Tryz.prog 42 #[TaskV t p, .agg #[.int .i64 b, .slice A ns.length c], .int .i64 steps] w fun e w' => (∃ (a d ec : Int), e = .returned (.tuple #[.int .i64 a, .int .i64 d, erV ec]) ∧ VeOk t b ns steps ec) ∧ Below w.heap.size w w' := by
 have HR := Lib.hid (right_of hc)
 have hnv := HR.out.nv
 have hno := HR.out.no
 have HV1 := Lib.hid (show ∀ k, k < t.vars.length → nth t.vars k ≤ 1000 from fun k hk => by have := (HR.out.dom k hk).2; omega)
 have hnl := hn.len
 obtain ⟨W0, hW0⟩ : ∃ W0, W0 = (w.alloc (.cells #[.slice p.av t.vars.length p.cv, .slice p.ai t.init.length p.ci, .slice p.ag t.goal.length p.cg, .slice p.ao t.ops.length p.co] 26)).alloc (.cells #[.int .i64 b, .slice A ns.length c] 41) := ⟨_, rfl⟩
 have HB0 := Lib.hid (show Below w.heap.size w W0 by rw [hW0]; exact ((Below.refl _ _).alloc (Nat.le_refl _) _).alloc (by simp) _)
 have HX0 := Lib.hid (show BxI W0 w.heap.size 26 #[.slice p.av t.vars.length p.cv, .slice p.ai t.init.length p.ci, .slice p.ag t.goal.length p.cg, .slice p.ao t.ops.length p.co] by rw [hW0]; exact (BxI.new _ _ _).up ((Below.refl _ _).alloc (Nat.le_refl _) _))
 have HC0 := Lib.hid (show BxI W0 (w.heap.size + 1) 41 #[.int .i64 b, .slice A ns.length c] by rw [hW0]; exact BxI.new2 _ _ _ _)
 have K1 := Lib.hid (tcheck_any t p W0 (ht.up HB0.out))
 rw [hc, erV_0] at K1
 have HT := Lib.hid ht
 have HN := Lib.hid hn
 have hz0 := HB0.out.size
 clear ht hn
 go_enter Tryz.func42, Tryz.ntmps42
 unfold TaskV at K1 ⊢
 go_wp2_with fail
 rw [← hW0]
 have HW0 := Lib.hid hW0
 clear hW0
 refine K1.out.mono ?_
 rintro e w1 ⟨rfl, hb1⟩
 have HB1 := Lib.hid (show Below w.heap.size w w1 from HB0.out.trans (hb1.mono hz0))
 have HX1 := Lib.hid (HX0.out.up hb1)
 have HC1 := Lib.hid (HC0.out.up hb1)
 have x0 := HX1.out.cell 0 _ rfl
 have c0 := HC1.out.cell 0 (.int .i64 b) rfl
 have c1 := HC1.out.cell 1 (.slice A ns.length c) rfl
 have hXl := HX1.out.lt
 have hCl := HC1.out.lt
 have K2 := Lib.hid (cproper_any t.vars b ns p.av A p.cv c w1 (HT.out.vars.up HB1.out) (HN.out.up HB1.out))
 clear hb1 K1
 go_wp2_with fail
 refine K2.out.mono ?_
 rintro e w2 ⟨rfl, hb2⟩
 have HB2 := Lib.hid (show Below w.heap.size w w2 from HB1.out.trans (hb2.mono HB1.out.size))
 have HX2 := Lib.hid (HX1.out.up hb2)
 have HC2 := Lib.hid (HC1.out.up hb2)
 clear hb2 K2 x0 c0 c1 hXl hCl
 by_cases hp : prpN t.vars b ns = 0
 ·obtain ⟨hck, hfa⟩ := prp_of hp
  obtain ⟨hb0, hb1, hl4, hds⟩ := chk_of hck
  have HCK := Lib.hid hck
  have HFA := Lib.hid hfa
  have HDS := Lib.hid hds
  rw [hp, erV_0]
  have c1 := HC2.out.cell 1 (.slice A ns.length c) rfl
  have hCl := HC2.out.lt
  clear hp hck hfa hds
  go_wp2_with fail
  go_loopw [35] (fun v35 wr => ∃ (i : Nat), v35 = .int .i64 i ∧ i ≤ ns.length ∧ Hid (∀ k, k < i → hoB (ng ns k).l t.init = false) ∧ Hid (Below w2.heap.size w2 wr)) (fun v35 _ => ns.length - (intOf v35).toNat)
  case atStart => exact ⟨0, rfl, by omega, Lib.hid (fun k hk => absurd hk (by omega)), Lib.hid (Below.refl _ _)⟩
  case round =>
   clear c1 hCl
   obtain ⟨i, rfl, hi, HI, HE⟩ := hrel
   obtain ⟨wt, rfl⟩ : ∃ wt : World, wt = wr := ⟨_, rfl⟩
   have HBt := Lib.hid (show Below w.heap.size w wt from HB2.out.trans (HE.out.mono HB2.out.size))
   have HXt := Lib.hid (HX2.out.up HE.out)
   have HCt := Lib.hid (HC2.out.up HE.out)
   have hXl := HXt.out.lt
   have hCl := HCt.out.lt
   by_cases hlt : i < ns.length
   ·obtain ⟨nb, no, hA, hnb, n1, n2⟩ := (HN.out.up HBt.out).at_ hlt
    have hfac := (HN.out.up HBt.out).fac hlt
    obtain ⟨n, hne⟩ : ∃ n, n = ng ns i := ⟨_, rfl⟩
    rw [← hne] at n1 n2 hfac
    have HNE := Lib.hid hne
    have x1 := HXt.out.cell 1 (.slice p.ai t.init.length p.ci) rfl
    have hfl : n.l.length ≤ 140737488355328 := hfac.1
    obtain ⟨W3, hW3⟩ : ∃ W3, W3 = wt.alloc (.cells #[.slice n.a n.l.length n.c, .int .i64 n.d] 97) := ⟨_, rfl⟩
    have HB3 := Lib.hid (show Below wt.heap.size wt W3 by rw [hW3]; exact (Below.refl _ _).alloc (Nat.le_refl _) _)
    have KH := Lib.hid (holds_any n.l t.init n.a p.ai n.c p.ci W3 (hfac.up HB3.out).at_ (HT.out.init.up (HBt.out.trans (HB3.out.mono HBt.out.size))))
    have hz3 := HB3.out.size
    rw [hA]
    clear hne hfac
    go_wp2_with fail
    rw [← hW3]
    have HW3 := Lib.hid hW3
    clear hW3
    refine KH.out.mono ?_
    rintro e w4 ⟨rfl, hb4⟩
    have HE4 := Lib.hid (show Below w2.heap.size w2 w4 from (HE.out.trans (HB3.out.mono HE.out.size)).trans (hb4.mono (Nat.le_trans HE.out.size hz3)))
    clear hb4 KH n1 n2 x1
    cases e1 : hoB n.l t.init
    ·have HI2 := Lib.hid (show ∀ k, k < i + 1 → hoB (ng ns k).l t.init = false from fun k hk => by
      rcases Nat.lt_succ_iff_lt_or_eq.1 hk with h1 | rfl
      ·exact HI.out k h1
      ·rw [← HNE.out]; exact e1)
     go_wp2
     go_roundw
     case rel => exact ⟨i + 1, by go_num, by omega, HI2, HE4⟩
     case measure => simp [intOf]; omega
    ·go_wp2
     refine bodyPost_ret (v := .tuple #[.int .i64 (-1), .int .i64 (-1), erV 20]) (by simp [results, Tryz.results42, go_sem, erV]) rfl ⟨⟨-1, -1, 20, rfl, ve_bad (by decide) fun hf _ => ?_⟩, HB2.out.trans (HE4.out.mono HB2.out.size)⟩
     have := hf.syn.ninit ⟨(ng ns i).l, (ng ns i).d⟩ (nogs_mem.2 ⟨_, ng_mem hlt, rfl⟩)
     rw [← HNE.out] at this
     exact absurd (e1.symm.trans this) (by decide)
   ·obtain rfl : i = ns.length := by omega
    have x0 := HXt.out.cell 0 (.slice p.av t.vars.length p.cv) rfl
    have x1 := HXt.out.cell 1 (.slice p.ai t.init.length p.ci) rfl
    have x2 := HXt.out.cell 2 (.slice p.ag t.goal.length p.cg) rfl
    have x3 := HXt.out.cell 3 (.slice p.ao t.ops.length p.co) rfl
    have c0 := HCt.out.cell 0 (.int .i64 b) rfl
    have c1 := HCt.out.cell 1 (.slice A ns.length c) rfl
    have hmn : min steps 1048576 = steps := by omega
    have hmx : max 0 steps = steps := by omega
    obtain ⟨X, hX⟩ : ∃ X, X = wt.heap.size := ⟨_, rfl⟩
    obtain ⟨V, hV⟩ : ∃ V, V = wt.alloc (.cells #[.slice p.av t.vars.length p.cv, .slice p.ai t.init.length p.ci, .slice p.ag t.goal.length p.cg, .slice p.ao t.ops.length p.co, .int .i64 b, .slice A ns.length c, .int .i64 steps] 156) := ⟨_, rfl⟩
    have HBV := Lib.hid (show Below wt.heap.size wt V by rw [hV]; exact (Below.refl _ _).alloc (Nat.le_refl _) _)
    have HSV := Lib.hid (show CkSt X t p b A ns c steps V from
     ⟨by rw [hV, hX]; exact BxI.new _ _ _, ((HN.out.up HBt.out).sub (bad' := fun b => b = X) (fun b hb e => by omega)).up HBV.out, HT.out.keep (fun q hq => (HBt.out.trans (HBV.out.mono HBt.out.size)).cell hq) (by have := HBt.out.size; omega), hs0, hs1⟩)
    have HXV := Lib.hid (HXt.out.up HBV.out)
    have HCV := Lib.hid (HCt.out.up HBV.out)
    have HBw := Lib.hid (show Below w.heap.size w V from HBt.out.trans (HBV.out.mono HBt.out.size))
    have hzt := HBt.out.size
    have hXw : w.heap.size + 1 < X := by rw [hX]; exact hCl
    by_cases hbz : b = 0
    ·have e0 : (b != 0) = false := by rw [hbz]; rfl
     have HGO := Lib.hid (show b ≠ 0 → CovP t.vars t.goal (hls (cntL ns 0 ns.length)) from fun h => absurd hbz h)
     have HCM := Lib.hid (show Full t b ns steps → steps - 1 ≤ steps from fun _ => by omega)
     have HBZ := Lib.hid hbz
     clear hbz
     go_wp2_with fail
     rw [← hV, ← hX]
     have HVV := Lib.hid hV
     have HXE := Lib.hid hX
     clear hV hX x0 x1 x2 x3 c0 c1 e0 hmn hmx hXl hCl
     go_loopw [72] (fun v72 wr => ∃ (i : Nat) (s' : Int), v72 = .int .i64 i ∧ i ≤ ns.length ∧ Hid (CkSt X t p b A ns c s' wr) ∧ Hid (Kb (fun b => b = X) V wr) ∧ Hid (∀ m, m < i → ∀ k, k < t.ops.length → StepOk t b ns m k) ∧ Hid (Full t b ns steps → steps - 1 - ((i * t.ops.length * npV t.vars : Nat) : Int) ≤ s')) (fun v72 _ => ns.length - (intOf v72).toNat)
     case atStart => exact ⟨0, steps, rfl, by omega, HSV, Lib.hid (Kb.refl _ _), Lib.hid (fun m hm => absurd hm (by omega)), Lib.hid (fun hf => by have := HCM.out hf; simp; omega)⟩
     case round =>
      obtain ⟨i, s1, rfl, hi, HS, HK, HSO, HCP⟩ := hrel
      obtain ⟨wu, rfl⟩ : ∃ wu : World, wu = wr := ⟨_, rfl⟩
      have HBu := Lib.hid (show Below w.heap.size w wu from HBw.out.trans (HK.out.below (fun b hb e => by omega) HBw.out.size))
      have HXu := Lib.hid (HXV.out.kb HK.out (show ¬ w.heap.size = X by omega))
      by_cases hlt : i < ns.length
      ·obtain ⟨nb, no, hA, hnb, n1, n2⟩ := HS.out.ngs.at_ hlt
       have hfac := HS.out.ngs.fac hlt
       have hnf := HFA.out _ (ng_mem hlt)
       have hdd := HDS.out i hlt
       have HSP := Lib.hid (fun k => step_ck X t p b A ns c (n := ng ns i) (k := k))
       have HFS := Lib.hid (fun (h : Full t b ns steps) k (hk : k < t.ops.length) => h.step hlt hk)
       have HSOI := Lib.hid (show ∀ k, (Cnt b (ng ns i).d (opr t.ops k).cost → ∀ z, RegS t.vars (opr t.ops k) (ng ns i).l z → CovP t.vars z (hls (cntL ns (dsX b (ng ns i).d (opr t.ops k).cost) ns.length))) → StepOk t b ns i k from fun k h => h)
       have HFC := Lib.hid (fun W (k : Nls W (fun b => b = X) A ns) => k.fac hlt)
       obtain ⟨n, hne⟩ : ∃ n, n = ng ns i := ⟨_, rfl⟩
       rw [← hne] at n1 n2 hfac hnf hdd HSP HFS HSOI HFC
       have HNE := Lib.hid hne
       have HNF := Lib.hid hnf
       have HDD := Lib.hid hdd
       have hfl : n.l.length ≤ 140737488355328 := hfac.1
       have x3 := HXu.out.cell 3 (.slice p.ao t.ops.length p.co) rfl
       have hXl := HXu.out.lt
       obtain ⟨W6, hW6⟩ : ∃ W6, W6 = wu.alloc (.cells #[.slice n.a n.l.length n.c, .int .i64 n.d] 97) := ⟨_, rfl⟩
       have HB6 := Lib.hid (show Below wu.heap.size wu W6 by rw [hW6]; exact (Below.refl _ _).alloc (Nat.le_refl _) _)
       have HN6 := Lib.hid (show BxI W6 wu.heap.size 97 #[.slice n.a n.l.length n.c, .int .i64 n.d] by rw [hW6]; exact BxI.new _ _ _)
       have HS6 := Lib.hid (HS.out.up HB6.out)
       have hXu := HS.out.box.lt
       rw [hA]
       clear hne hfac hnf hdd
       go_wp2_with fail
       rw [← hW6]
       have HW6 := Lib.hid hW6
       clear hW6 n1 n2 x3 hXl
       go_loopw [80] (fun v80 wr => ∃ (k : Nat) (s' : Int), v80 = .int .i64 k ∧ k ≤ t.ops.length ∧ Hid (CkSt X t p b A ns c s' wr) ∧ Hid (Kb (fun b => b = X) W6 wr) ∧ Hid (∀ k', k' < k → StepOk t b ns i k') ∧ Hid (Full t b ns steps → steps - 1 - (((i * t.ops.length + k) * npV t.vars : Nat) : Int) ≤ s')) (fun v80 _ => t.ops.length - (intOf v80).toNat)
       case atStart => exact ⟨0, s1, rfl, by omega, HS6, Lib.hid (Kb.refl _ _), Lib.hid (fun k' hk => absurd hk (by omega)), Lib.hid (fun hf => HCP.out hf)⟩
       case round =>
        clear HS6
        obtain ⟨k, s2, rfl, hk, HS7, HK7, HSO7, HCP7⟩ := hrel
        obtain ⟨wv, rfl⟩ : ∃ wv : World, wv = wr := ⟨_, rfl⟩
        have HN7 := Lib.hid (HN6.out.kb HK7.out (show ¬ wu.heap.size = X by omega))
        have m0 := HN7.out.cell 0 (.slice n.a n.l.length n.c) rfl
        have m1 := HN7.out.cell 1 (.int .i64 n.d) rfl
        have hml := HN7.out.lt
        have HK8 := Lib.hid (show Kb (fun b => b = X) V wv from (HK.out.up HB6.out).trans HK7.out)
        by_cases hlt2 : k < t.ops.length
        ·have KS := Lib.hid (HSP.out k s2 wv HS7.out hc hlt2 hl4 HFA.out (HFC.out wv HS7.out.ngs) HNF.out HDD.out.1 hb1 HDD.out.2.1)
         go_wp2_with fail
         refine KS.out.mono ?_
         rintro e w9 ⟨ec, s9, rfl, hs9, hle9, hk9, hst9, hcm9⟩
         have HS9 := Lib.hid hs9
         have HK9 := Lib.hid (show Kb (fun b => b = X) W6 w9 from HK7.out.trans hk9)
         have HKv9 := Lib.hid (show Kb (fun b => b = X) V w9 from HK8.out.trans hk9)
         have HST9 := Lib.hid hst9
         have hij : i * t.ops.length + k + 1 ≤ ns.length * t.ops.length := by
          have h1 : (i + 1) * t.ops.length ≤ ns.length * t.ops.length := Nat.mul_le_mul_right _ hlt
          rw [Nat.add_mul, Nat.one_mul] at h1
          omega
         have HCM9 := Lib.hid (show Full t b ns steps → ec = 0 ∧ s2 - npV t.vars ≤ s9 from fun hf => hcm9 hf.np (hf.left hij (HCP7.out hf)) (HFS.out hf k hlt2))
         clear hs9 hk9 hst9 hcm9 KS m0 m1 hml hij
         by_cases hec : ec = 0
         ·subst hec
          rw [erV_0]
          have HSO9 := Lib.hid (show ∀ k', k' < k + 1 → StepOk t b ns i k' from fun k' hk' => by
           rcases Nat.lt_succ_iff_lt_or_eq.1 hk' with h1 | rfl
           ·exact HSO7.out k' h1
           ·exact HSOI.out _ (HST9.out rfl))
          have HCP9 := Lib.hid (show Full t b ns steps → steps - 1 - (((i * t.ops.length + (k + 1)) * npV t.vars : Nat) : Int) ≤ s9 from fun hf => by
           have h1 := (HCM9.out hf).2
           have h2 := HCP7.out hf
           have h3 : (i * t.ops.length + (k + 1)) * npV t.vars = (i * t.ops.length + k) * npV t.vars + npV t.vars := by rw [← Nat.add_assoc, Nat.add_mul _ 1, Nat.one_mul]
           rw [h3]
           omega)
          go_wp2
          go_roundw
          case rel => exact ⟨k + 1, s9, by go_num, by omega, HS9, HK9, HSO9, HCP9⟩
          case measure => simp [intOf]; omega
         ·have HEC := Lib.hid hec
          rw [erV_nz hec]
          go_wp2
          refine bodyPost_ret (v := .tuple #[.int .i64 i, .int .i64 k, erV ec]) (by simp [results, Tryz.results42, go_sem, erV_nz hec]) rfl ⟨⟨i, k, ec, rfl, ve_bad HEC.out fun hf _ => HEC.out (HCM9.out hf).1⟩, HBw.out.trans (HKv9.out.below (fun b hb e => by omega) HBw.out.size)⟩
        ·obtain rfl : k = t.ops.length := by omega
         have HSOI2 := Lib.hid (show ∀ m, m < i + 1 → ∀ k, k < t.ops.length → StepOk t b ns m k from fun m hm k hk => by
          rcases Nat.lt_succ_iff_lt_or_eq.1 hm with h1 | rfl
          ·exact HSO.out m h1 k hk
          ·exact HSO7.out k hk)
         have HCPI := Lib.hid (show Full t b ns steps → steps - 1 - (((i + 1) * t.ops.length * npV t.vars : Nat) : Int) ≤ s2 from fun hf => by
          have h2 := HCP7.out hf
          rw [Nat.add_mul i 1, Nat.one_mul]
          exact h2)
         clear m0 m1 hml
         go_wp2
         go_roundw
         case rel => exact ⟨i + 1, s2, by go_num, by omega, Lib.hid (by have h := HS7.out; rw [hA] at h; exact h), HK8, HSOI2, HCPI⟩
         case measure => simp [intOf]; omega
      ·obtain rfl : i = ns.length := by omega
       go_wp2
       refine bodyPost_ret (v := .tuple #[.int .i64 (-1), .int .i64 (-1), erV 0]) (by simp [results, Tryz.results42, go_sem, erV]) rfl ⟨⟨-1, -1, 0, rfl, ⟨fun _ => ⟨HCK.out, ve_cert HR.out HFA.out HI.out HGO.out HSO.out⟩, fun _ _ => rfl⟩⟩, HBu.out⟩
    ·have e0 : (b != 0) = true := by simpa using hbz
     have HBZ := Lib.hid hbz
     have KG := Lib.hid (ckcov_any X t p b ns A p.ag c p.cg steps 0 t.goal V hs0 hs1 (by omega) HV1.out HSV.out.box HSV.out.ngs hl4 HSV.out.task.vars (fac_low HSV.out.task.goal (Nat.le_of_lt HSV.out.box.lt) (fun b hb e => by omega)))
     have hgl : t.goal.length ≤ 140737488355328 := HSV.out.task.goal.1
     clear hbz
     go_wp2_with fail
     rw [← hV, ← hX]
     have HVV := Lib.hid hV
     have HXE := Lib.hid hX
     clear hV hX x0 x1 x2 x3 c0 c1 e0 hmn hmx hXl hCl
     refine KG.out.mono ?_
     rintro e w5 ⟨⟨bb, u, ec, s5, rfl, hco, hbx, hcase⟩, hk5⟩
     have HONE := Lib.hid (show Full t b ns steps → bb = true ∧ u = 1 ∧ ec = 0 from fun hf => hco.one HR.out.goal (fun h hh => by
      obtain ⟨m, hm, rfl⟩ := cntL_in hh; exact HFA.out m hm) (hf.cov HBZ.out) (by have := hf.many; omega))
     have HCO := Lib.hid hco
     have HCASE := Lib.hid hcase
     have HB5 := Lib.hid (show Below w.heap.size w w5 from HBw.out.trans (hk5.below (fun b hb e => by omega) HBw.out.size))
     have HX5 := Lib.hid (HXV.out.kb hk5 (show ¬ w.heap.size = X by omega))
     have HC5 := Lib.hid (HCV.out.kb hk5 (show ¬ w.heap.size + 1 = X by omega))
     have HK5 := Lib.hid hk5
     have HBX := Lib.hid hbx
     clear hco hbx hcase hk5 KG
     by_cases hec : ec = 0
     ·subst hec
      have hok := HCO.out.ok rfl
      have hs5 : s5 = steps - u := by
       rcases HCASE.out with h | h
       ·exact h.2
       ·exact absurd rfl h.1
      have HS5 := Lib.hid (show CkSt X t p b A ns c s5 w5 from HSV.out.next HK5.out HBX.out (by omega) (by omega))
      have HCM := Lib.hid (show Full t b ns steps → steps - 1 ≤ s5 from fun hf => by have := (HONE.out hf).2.1; omega)
      have HGO := Lib.hid (show bb = true → b ≠ 0 → CovP t.vars t.goal (hls (cntL ns 0 ns.length)) from fun h _ => hok.2.2 h)
      rw [erV_0]
      clear hok hs5
      cases bb
      ·go_wp2
       refine bodyPost_ret (v := .tuple #[.int .i64 (-1), .int .i64 (-1), erV 13]) (by simp [results, Tryz.results42, go_sem, erV]) rfl ⟨⟨-1, -1, 13, rfl, ve_bad (by decide) fun hf _ => ?_⟩, HB5.out⟩
       have := (HONE.out hf).1
       cases this
      ·replace HGO := Lib.hid (HGO.out rfl)
       have x3 := HX5.out.cell 3 (.slice p.ao t.ops.length p.co) rfl
       have c1 := HC5.out.cell 1 (.slice A ns.length c) rfl
       have hXl := HX5.out.lt
       have hCl := HC5.out.lt
       go_wp2_with fail
       clear x3 c1 hXl hCl
       go_loopw [72] (fun v72 wr => ∃ (i : Nat) (s' : Int), v72 = .int .i64 i ∧ i ≤ ns.length ∧ Hid (CkSt X t p b A ns c s' wr) ∧ Hid (Kb (fun b => b = X) w5 wr) ∧ Hid (∀ m, m < i → ∀ k, k < t.ops.length → StepOk t b ns m k) ∧ Hid (Full t b ns steps → steps - 1 - ((i * t.ops.length * npV t.vars : Nat) : Int) ≤ s')) (fun v72 _ => ns.length - (intOf v72).toNat)
       case atStart => exact ⟨0, s5, rfl, by omega, HS5, Lib.hid (Kb.refl _ _), Lib.hid (fun m hm => absurd hm (by omega)), Lib.hid (fun hf => by have := HCM.out hf; simp; omega)⟩
       case round =>
        obtain ⟨i, s1, rfl, hi, HS, HK, HSO, HCP⟩ := hrel
        obtain ⟨wu, rfl⟩ : ∃ wu : World, wu = wr := ⟨_, rfl⟩
        have HBu := Lib.hid (show Below w.heap.size w wu from HB5.out.trans (HK.out.below (fun b hb e => by omega) HB5.out.size))
        have HXu := Lib.hid (HX5.out.kb HK.out (show ¬ w.heap.size = X by omega))
        by_cases hlt : i < ns.length
        ·obtain ⟨nb, no, hA, hnb, n1, n2⟩ := HS.out.ngs.at_ hlt
         have hfac := HS.out.ngs.fac hlt
         have hnf := HFA.out _ (ng_mem hlt)
         have hdd := HDS.out i hlt
         have HSP := Lib.hid (fun k => step_ck X t p b A ns c (n := ng ns i) (k := k))
         have HFS := Lib.hid (fun (h : Full t b ns steps) k (hk : k < t.ops.length) => h.step hlt hk)
         have HSOI := Lib.hid (show ∀ k, (Cnt b (ng ns i).d (opr t.ops k).cost → ∀ z, RegS t.vars (opr t.ops k) (ng ns i).l z → CovP t.vars z (hls (cntL ns (dsX b (ng ns i).d (opr t.ops k).cost) ns.length))) → StepOk t b ns i k from fun k h => h)
         have HFC := Lib.hid (fun W (k : Nls W (fun b => b = X) A ns) => k.fac hlt)
         obtain ⟨n, hne⟩ : ∃ n, n = ng ns i := ⟨_, rfl⟩
         rw [← hne] at n1 n2 hfac hnf hdd HSP HFS HSOI HFC
         have HNE := Lib.hid hne
         have HNF := Lib.hid hnf
         have HDD := Lib.hid hdd
         have hfl : n.l.length ≤ 140737488355328 := hfac.1
         have x3 := HXu.out.cell 3 (.slice p.ao t.ops.length p.co) rfl
         have hXl := HXu.out.lt
         obtain ⟨W6, hW6⟩ : ∃ W6, W6 = wu.alloc (.cells #[.slice n.a n.l.length n.c, .int .i64 n.d] 97) := ⟨_, rfl⟩
         have HB6 := Lib.hid (show Below wu.heap.size wu W6 by rw [hW6]; exact (Below.refl _ _).alloc (Nat.le_refl _) _)
         have HN6 := Lib.hid (show BxI W6 wu.heap.size 97 #[.slice n.a n.l.length n.c, .int .i64 n.d] by rw [hW6]; exact BxI.new _ _ _)
         have HS6 := Lib.hid (HS.out.up HB6.out)
         have hXu := HS.out.box.lt
         rw [hA]
         clear hne hfac hnf hdd
         go_wp2_with fail
         rw [← hW6]
         have HW6 := Lib.hid hW6
         clear hW6 n1 n2 x3 hXl
         go_loopw [80] (fun v80 wr => ∃ (k : Nat) (s' : Int), v80 = .int .i64 k ∧ k ≤ t.ops.length ∧ Hid (CkSt X t p b A ns c s' wr) ∧ Hid (Kb (fun b => b = X) W6 wr) ∧ Hid (∀ k', k' < k → StepOk t b ns i k') ∧ Hid (Full t b ns steps → steps - 1 - (((i * t.ops.length + k) * npV t.vars : Nat) : Int) ≤ s')) (fun v80 _ => t.ops.length - (intOf v80).toNat)
         case atStart => exact ⟨0, s1, rfl, by omega, HS6, Lib.hid (Kb.refl _ _), Lib.hid (fun k' hk => absurd hk (by omega)), Lib.hid (fun hf => HCP.out hf)⟩
         case round =>
          clear HS6
          obtain ⟨k, s2, rfl, hk, HS7, HK7, HSO7, HCP7⟩ := hrel
          obtain ⟨wv, rfl⟩ : ∃ wv : World, wv = wr := ⟨_, rfl⟩
          have HN7 := Lib.hid (HN6.out.kb HK7.out (show ¬ wu.heap.size = X by omega))
          have m0 := HN7.out.cell 0 (.slice n.a n.l.length n.c) rfl
          have m1 := HN7.out.cell 1 (.int .i64 n.d) rfl
          have hml := HN7.out.lt
          have HK8 := Lib.hid (show Kb (fun b => b = X) w5 wv from (HK.out.up HB6.out).trans HK7.out)
          by_cases hlt2 : k < t.ops.length
          ·have KS := Lib.hid (HSP.out k s2 wv HS7.out hc hlt2 hl4 HFA.out (HFC.out wv HS7.out.ngs) HNF.out HDD.out.1 hb1 HDD.out.2.1)
           go_wp2_with fail
           refine KS.out.mono ?_
           rintro e w9 ⟨ec, s9, rfl, hs9, hle9, hk9, hst9, hcm9⟩
           have HS9 := Lib.hid hs9
           have HK9 := Lib.hid (show Kb (fun b => b = X) W6 w9 from HK7.out.trans hk9)
           have HKv9 := Lib.hid (show Kb (fun b => b = X) w5 w9 from HK8.out.trans hk9)
           have HST9 := Lib.hid hst9
           have hij : i * t.ops.length + k + 1 ≤ ns.length * t.ops.length := by
            have h1 : (i + 1) * t.ops.length ≤ ns.length * t.ops.length := Nat.mul_le_mul_right _ hlt
            rw [Nat.add_mul, Nat.one_mul] at h1
            omega
           have HCM9 := Lib.hid (show Full t b ns steps → ec = 0 ∧ s2 - npV t.vars ≤ s9 from fun hf => hcm9 hf.np (hf.left hij (HCP7.out hf)) (HFS.out hf k hlt2))
           clear hs9 hk9 hst9 hcm9 KS m0 m1 hml hij
           by_cases hec : ec = 0
           ·subst hec
            rw [erV_0]
            have HSO9 := Lib.hid (show ∀ k', k' < k + 1 → StepOk t b ns i k' from fun k' hk' => by
             rcases Nat.lt_succ_iff_lt_or_eq.1 hk' with h1 | rfl
             ·exact HSO7.out k' h1
             ·exact HSOI.out _ (HST9.out rfl))
            have HCP9 := Lib.hid (show Full t b ns steps → steps - 1 - (((i * t.ops.length + (k + 1)) * npV t.vars : Nat) : Int) ≤ s9 from fun hf => by
             have h1 := (HCM9.out hf).2
             have h2 := HCP7.out hf
             have h3 : (i * t.ops.length + (k + 1)) * npV t.vars = (i * t.ops.length + k) * npV t.vars + npV t.vars := by rw [← Nat.add_assoc, Nat.add_mul _ 1, Nat.one_mul]
             rw [h3]
             omega)
            go_wp2
            go_roundw
            case rel => exact ⟨k + 1, s9, by go_num, by omega, HS9, HK9, HSO9, HCP9⟩
            case measure => simp [intOf]; omega
           ·have HEC := Lib.hid hec
            rw [erV_nz hec]
            go_wp2
            refine bodyPost_ret (v := .tuple #[.int .i64 i, .int .i64 k, erV ec]) (by simp [results, Tryz.results42, go_sem, erV_nz hec]) rfl ⟨⟨i, k, ec, rfl, ve_bad HEC.out fun hf _ => HEC.out (HCM9.out hf).1⟩, HB5.out.trans (HKv9.out.below (fun b hb e => by omega) HB5.out.size)⟩
          ·obtain rfl : k = t.ops.length := by omega
           have HSOI2 := Lib.hid (show ∀ m, m < i + 1 → ∀ k, k < t.ops.length → StepOk t b ns m k from fun m hm k hk => by
            rcases Nat.lt_succ_iff_lt_or_eq.1 hm with h1 | rfl
            ·exact HSO.out m h1 k hk
            ·exact HSO7.out k hk)
           have HCPI := Lib.hid (show Full t b ns steps → steps - 1 - (((i + 1) * t.ops.length * npV t.vars : Nat) : Int) ≤ s2 from fun hf => by
            have h2 := HCP7.out hf
            rw [Nat.add_mul i 1, Nat.one_mul]
            exact h2)
           clear m0 m1 hml
           go_wp2
           go_roundw
           case rel => exact ⟨i + 1, s2, by go_num, by omega, Lib.hid (by have h := HS7.out; rw [hA] at h; exact h), HK8, HSOI2, HCPI⟩
           case measure => simp [intOf]; omega
        ·obtain rfl : i = ns.length := by omega
         go_wp2
         refine bodyPost_ret (v := .tuple #[.int .i64 (-1), .int .i64 (-1), erV 0]) (by simp [results, Tryz.results42, go_sem, erV]) rfl ⟨⟨-1, -1, 0, rfl, ⟨fun _ => ⟨HCK.out, ve_cert HR.out HFA.out HI.out HGO.out HSO.out⟩, fun _ _ => rfl⟩⟩, HBu.out⟩
     ·have HEC := Lib.hid hec
      rw [erV_nz hec]
      go_wp2
      refine bodyPost_ret (v := .tuple #[.int .i64 (-1), .int .i64 (-1), erV ec]) (by simp [results, Tryz.results42, go_sem, erV_nz hec]) rfl ⟨⟨-1, -1, ec, rfl, ve_bad HEC.out fun hf _ => HEC.out (HONE.out hf).2.2⟩, HB5.out⟩
 ·obtain ⟨ec, hec⟩ : ∃ ec, ec = prpN t.vars b ns := ⟨_, rfl⟩
  have HEC := Lib.hid hec
  rw [← hec] at hp ⊢
  rw [erV_nz hp]
  have HP := Lib.hid hp
  go_wp2
  refine bodyPost_ret (v := .tuple #[.int .i64 (-1), .int .i64 (-1), erV ec]) (by simp [results, Tryz.results42, go_sem, erV_nz hp, hec.symm]) rfl ⟨⟨-1, -1, ec, rfl, ve_bad HP.out fun hf h0 => HP.out ?_⟩, HB2.out⟩
  rw [HEC.out]
  exact prp_ok h0 hf.fa

set_option maxRecDepth 20000 in
set_option maxHeartbeats 8000000 in
theorem verify_any (t : Tsk) (p : Lies) (b : Int) (A : Option Addr) (ns : List Ngd) (c : Nat) (steps : Int) (w : World) (ht : TaskAt w w.heap.size t p) (hc : chkC t = 0) (hn : Nls w (fun _ => False) A ns) (hs0 : 0 ≤ steps) (hs1 : steps ≤ 1048576) :
  Calls Tryz.prog 16 #[TaskV t p, .agg #[.int .i64 b, .slice A ns.length c], .int .i64 steps] w fun e w' => (∃ (ec : Int), e = .returned (erV ec) ∧ VeOk t b ns steps ec) ∧ Below w.heap.size w w' := by
 obtain ⟨W0, hW0⟩ : ∃ W0, W0 = (w.alloc (.cells #[.slice p.av t.vars.length p.cv, .slice p.ai t.init.length p.ci, .slice p.ag t.goal.length p.cg, .slice p.ao t.ops.length p.co] 26)).alloc (.cells #[.int .i64 b, .slice A ns.length c] 41) := ⟨_, rfl⟩
 have HB0 := Lib.hid (show Below w.heap.size w W0 by rw [hW0]; exact ((Below.refl _ _).alloc (Nat.le_refl _) _).alloc (by simp) _)
 have KW := Lib.hid (where_any t p b A ns c steps W0 (ht.up HB0.out) hc (hn.up HB0.out) hs0 hs1)
 clear ht hn
 go_enter Tryz.func16, Tryz.ntmps16
 unfold TaskV at KW ⊢
 go_wp2_with fail
 rw [← hW0]
 have HW0 := Lib.hid hW0
 clear hW0
 refine KW.out.mono ?_
 rintro e w1 ⟨⟨a, d, ec, rfl, hv⟩, hb1⟩
 have HB1 := Lib.hid (show Below w.heap.size w w1 from HB0.out.trans (hb1.mono HB0.out.size))
 have HV := Lib.hid hv
 clear hb1 hv KW
 go_wp2
 refine bodyPost_ret (v := erV ec) (by simp [results, Tryz.results16, go_sem]) rfl ⟨⟨ec, rfl, HV.out⟩, HB1.out⟩
end Go.Proofs.YtlkebhiaimijiaaGreatDoor

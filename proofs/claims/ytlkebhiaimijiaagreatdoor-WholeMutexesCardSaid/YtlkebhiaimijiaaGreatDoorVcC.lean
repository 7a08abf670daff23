/- checker.step, walked. -/
import Derived.Test.YtlkebhiaimijiaaGreatDoorBel
import Derived.Test.YtlkebhiaimijiaaGreatDoorNgE
import Derived.Test.YtlkebhiaimijiaaGreatDoorNgM
import Derived.Test.YtlkebhiaimijiaaGreatDoorNhK
namespace Go.Proofs.YtlkebhiaimijiaaGreatDoor
set_option linter.unusedSimpArgs false
set_option linter.unusedVariables false
open Go Go.RowKit
set_option linter.unusedVariables false

theorem listRet_alt {vars : List Int} {Y : List Fct → Prop} {w w' : World} {e : Ending} (h : ListRet vars Y w e w') : ∃ (A : Option Addr) (c : Nat) (os : List Hd) (ec : Int), e = .returned (.tuple #[.slice A os.length c, erV ec]) ∧
  ((ec = 0 ∧ Orl w' w.heap.size (fun b => b < w.heap.size ∨ (Value.slice A os.length c).ownBlock = some b) (.slice A os.length c) os ∧ (hls os).Nodup ∧ (∀ z, z ∈ hls os ↔ Y z) ∧ (∀ z ∈ hls os, faB vars z = true) ∧ os.length ≤ 1024) ∨ (ec = 5 ∧ os = [] ∧ 1025 ≤ npV vars)) := by
 rcases h with ⟨A, c, os, rfl, h1, h2, h3, h4, h5⟩ | ⟨rfl, h⟩
 ·exact ⟨A, c, os, 0, by rw [erV_0], .inl ⟨rfl, h1, h2, h3, h4, h5⟩⟩
 ·exact ⟨none, 0, [], 5, by rw [erV_nz (by decide)]; rfl, .inr ⟨rfl, rfl, h⟩⟩
/-- A checker at work. -/
structure CkSt (X : Nat) (t : Tsk) (p : Lies) (b : Int) (A : Option Addr) (ns : List Ngd) (c : Nat) (s : Int) (w : World) : Prop where
 box : CkB w X t p b A ns.length c s
 ngs : Nls w (fun b => b = X) A ns
 task : TaskAt w X t p
 s0 : 0 ≤ s
 s1 : s ≤ 1048576
section
variable {X : Nat} {t : Tsk} {p : Lies} {b : Int} {A : Option Addr} {ns : List Ngd} {c : Nat} {s s' : Int} {w w' : World}
theorem CkSt.up (h : CkSt X t p b A ns c s w) (k : Below w.heap.size w w') : CkSt X t p b A ns c s w' :=
 ⟨h.box.up k, h.ngs.up k, h.task.keep (fun q hq => k.cell (Nat.lt_trans hq h.box.lt)) (Nat.le_refl _), h.s0, h.s1⟩
theorem CkSt.next (h : CkSt X t p b A ns c s w) (k : Kb (fun b => b = X) w w') (hb : CkB w' X t p b A ns.length c s') (h0 : 0 ≤ s') (h1 : s' ≤ 1048576) : CkSt X t p b A ns c s' w' :=
 ⟨hb, h.ngs.kb k, h.task.keep (fun q hq => k.cell (Nat.lt_trans hq h.box.lt) (by show ¬ q.block = X; omega)) (Nat.le_refl _), h0, h1⟩
end
/-- What step returns. -/
def StRet (X : Nat) (t : Tsk) (p : Lies) (b : Int) (A : Option Addr) (ns : List Ngd) (c : Nat) (s : Int) (n : Ngd) (o : Opr) (w : World) (e : Ending) (w' : World) : Prop :=
 ∃ (ec s' : Int), e = .returned (erV ec) ∧ CkSt X t p b A ns c s' w' ∧ s' ≤ s ∧ Kb (fun b => b = X) w w' ∧
  (ec = 0 → Cnt b n.d o.cost → ∀ z, RegS t.vars o n.l z → CovP t.vars z (hls (cntL ns (dsX b n.d o.cost) ns.length))) ∧
  (npV t.vars ≤ 1024 → (npV t.vars : Int) < s → (Cnt b n.d o.cost → ∀ z, RegS t.vars o n.l z → ∃ m ∈ ns, m.d ≤ dsX b n.d o.cost ∧ Sub m.l z) → ec = 0 ∧ s - npV t.vars ≤ s')

set_option maxRecDepth 20000 in
set_option maxHeartbeats 32000000 in
theorem step_ck (X : Nat) (t : Tsk) (p : Lies) (b : Int) (A : Option Addr) (ns : List Ngd) (c : Nat) (s : Int) (n : Ngd) (k : Nat) (w : World) (h : CkSt X t p b A ns c s w) (hc : chkC t = 0) (hk : k < t.ops.length) (hl : ns.length ≤ 4096) (hf : ∀ m ∈ ns, faB t.vars m.l = true)
  (hn : Fac w (fun b => b = X) n.a n.l) (hnf : faB t.vars n.l = true) (hd0 : 0 ≤ n.d) (hb : b ≤ 1099511627776) (hdb : 0 ≤ b → n.d < b) :
  Calls Tryz.prog 79 #[.pointer (some ⟨X, 0, none⟩), .agg #[.slice n.a n.l.length n.c, .int .i64 n.d], .int .i64 k] w fun e w' => StRet X t p b A ns c s n (opr t.ops k) w e w' := by
 have HR := Lib.hid (right_of hc)
 have hnv := HR.out.nv
 have HH := Lib.hid h
 have HNF := Lib.hid hnf
 have HFN := Lib.hid hn
 have HF := Lib.hid hf
 have hno := HR.out.no
 have HV1 := Lib.hid (show ∀ k, k < t.vars.length → nth t.vars k ≤ 1000 from fun k hk => by have := (HR.out.dom k hk).2; omega)
 have hXl := h.box.lt
 obtain ⟨cst, hcst⟩ : ∃ cst, cst = (opr t.ops k).cost := ⟨_, rfl⟩
 have hcs0 := HR.out.cost k hk
 rw [← hcst] at hcs0
 have HCST := Lib.hid hcst
 obtain ⟨W1, hW1⟩ : ∃ W1, W1 = w.alloc (.cells #[.slice n.a n.l.length n.c, .int .i64 n.d] 97) := ⟨_, rfl⟩
 have HB1 := Lib.hid (show Below w.heap.size w W1 by rw [hW1]; exact (Below.refl _ _).alloc (Nat.le_refl _) _)
 have HN1 := Lib.hid (show BxI W1 w.heap.size 97 #[.slice n.a n.l.length n.c, .int .i64 n.d] by rw [hW1]; exact BxI.new _ _ _)
 have H1 := Lib.hid (HH.out.up HB1.out)
 have y4 := HH.out.box.cell 4 (.int .i64 b) rfl
 have y41 := H1.out.box.cell 4 (.int .i64 b) rfl
 have n1 := HN1.out.cell 1 (.int .i64 n.d) rfl
 have hz1 := HB1.out.size
 have hNl := HN1.out.lt
 have HS1 := Lib.hid (show ∀ w' : World, Below W1.heap.size W1 w' → (w'.cell? ⟨X, 0, none⟩ = some (.slice p.av t.vars.length p.cv) ∧ w'.cell? ⟨X, 1, none⟩ = some (.slice p.ai t.init.length p.ci) ∧ w'.cell? ⟨X, 2, none⟩ = some (.slice p.ag t.goal.length p.cg) ∧ w'.cell? ⟨X, 3, none⟩ = some (.slice p.ao t.ops.length p.co)) ∧ w'.cell? ⟨w.heap.size, 0, none⟩ = some (.slice n.a n.l.length n.c) from fun w' hb' => ⟨⟨(H1.out.box.up hb').cell 0 _ rfl, (H1.out.box.up hb').cell 1 _ rfl, (H1.out.box.up hb').cell 2 _ rfl, (H1.out.box.up hb').cell 3 _ rfl⟩, (HN1.out.up hb').cell 0 _ rfl⟩)
 have KR := Lib.hid (fun W (kb : Below W1.heap.size W1 W) => regress_any t p k n.l n.a n.c W ((H1.out.up kb).task.keep (fun q hq => rfl) (Nat.le_of_lt (H1.out.up kb).box.lt)) hc hk (((hn.up HB1.out).up kb).at_) hnf)
 unfold TaskV at KR
 have HW1a := Lib.hid hW1
 clear h hf hn hnf hcst
 by_cases hb0 : 0 ≤ b
 ·have e0 : decide (0 ≤ b) = true := decide_eq_true hb0
  have hdb' := hdb hb0
  obtain ⟨ob, oo, S, sc, T, tc, hoA, hob, d0, hnm, d1, d2, f2, d3, f3⟩ := HH.out.task.ops.at2 (Below.refl _ _) hk
  rw [← HCST.out] at d1
  have x3 := HH.out.box.cell 3 (.slice p.ao t.ops.length p.co) rfl
  have x31 := H1.out.box.cell 3 (.slice p.ao t.ops.length p.co) rfl
  have d11 := (HB1.out.cell (p := ⟨ob, oo + k * 4 + 1, none⟩) (show ob < w.heap.size by omega)).trans d1
  rw [hoA] at x3 x31
  have q1 : IntKind.i64.wrap (n.d + cst) = n.d + cst := IntWalk.i64_in _ (by omega)
  have g1 : ob < W1.heap.size := by omega
  have g11 : ob < w.heap.size := by omega
  clear d0 d2 d3 f2 f3 hnm hdb
  by_cases hbd : b ≤ n.d + cst
  ·have e1 : decide (b ≤ n.d + cst) = true := decide_eq_true hbd
   go_enter Tryz.func79, Tryz.ntmps79
   go_wp2_with fail
   rw [← hW1]
   clear hW1
   go_quiet (fail)
   go_wp2
   refine bodyPost_ret (v := erV 0) (by simp [results, Tryz.results79, go_sem, erV]) rfl ⟨0, s, rfl, H1.out.up (below_dN (Below.refl _ _) _), Int.le_refl _, Kb.of_below (below_dN HB1.out _), fun _ hcn => ?_, fun _ _ _ => ⟨rfl, by omega⟩⟩
   unfold Cnt at hcn
   rw [← HCST.out] at hcn
   omega
  ·have e1 : decide (b ≤ n.d + cst) = false := decide_eq_false hbd
   have HDX := Lib.hid (show dsX b n.d (opr t.ops k).cost = n.d + cst by unfold dsX; rw [if_neg (by omega), HCST.out])
   go_enter Tryz.func79, Tryz.ntmps79
   go_wp2_with fail
   rw [← hW1]
   clear hW1
   go_quiet (fail)
   go_wp2_with fail
   clear q1 d1 d11 x3 x31 y4 y41 n1 e0 e1 g1 g11 hoA
   obtain ⟨dv, hdv⟩ : ∃ dv : Int, dv = n.d + cst := ⟨_, rfl⟩
   rw [← hdv] at HDX ⊢
   have HDV := Lib.hid hdv
   obtain ⟨V, hV⟩ : ∃ V : World, V = W1.drewN nq := ⟨_, rfl⟩
   have HBV := Lib.hid (show Below W1.heap.size W1 V by rw [hV]; exact below_dN (Below.refl _ _) _)
   rw [← hV]
   clear hdv hV
   have HSV := Lib.hid (show ∀ w' : World, Below V.heap.size V w' → _ from fun w' hb' => HS1.out w' (HBV.out.trans (hb'.mono HBV.out.size)))
   have KRV := Lib.hid (show ∀ W : World, Below V.heap.size V W → _ from fun W hb' => KR.out W (HBV.out.trans (hb'.mono HBV.out.size)))
   have hzV := HBV.out.size
   have HK1 := Lib.hid HB1.out.size
   clear KR HS1
   refine wp_region_G 7 (fun w' => (w'.cell? ⟨X, 0, none⟩ = some (.slice p.av t.vars.length p.cv) ∧ w'.cell? ⟨X, 1, none⟩ = some (.slice p.ai t.init.length p.ci) ∧ w'.cell? ⟨X, 2, none⟩ = some (.slice p.ag t.goal.length p.cg) ∧ w'.cell? ⟨X, 3, none⟩ = some (.slice p.ao t.ops.length p.co)) ∧ w'.cell? ⟨w.heap.size, 0, none⟩ = some (.slice n.a n.l.length n.c)) (by kernel_rfl) (HSV.out _ (by exact bel)) ?_
   intro hG0
   refine wpS1 0 hG0 ?_; intro hG1; clear hG0
   refine wpS1 1 hG1 ?_; intro hG2; clear hG1
   refine wpS1 2 hG2 ?_; intro hG3; clear hG2
   refine wpS2 3 hG3 ?_; intro hG4; clear hG3
   refine wpS1 4 hG4 ?_; intro hG5; clear hG4
   refine wpS1 5 hG5 ?_; intro hG6; clear hG5
   refine wpS2 6 hG6 ?_; intro hG7; clear hG6
   refine wpAnyG_ready (rs := [7]) (by kernel_rfl) (by simp) (AllG.cons rfl hG7 (fun K hK => ?_) AllG.nil)
   (go_simp; go_at_call 38; refine (KRV.out _ (by exact bel)).mono ?_; rintro e w3 ⟨hcs, hb3⟩; have HB3 := Lib.hid (show Below V.heap.size V w3 from below_step hb3 (show V.heap.size ≤ _ by simp) (show Below V.heap.size V _ by exact bel)); have hz3 := HB3.out.size; obtain ⟨A3, c3, os, ec, rfl, hcase⟩ := listRet_alt hcs; have HCASE := Lib.hid hcase; clear hcs hb3 hcase)
   refine hK.out _ _ (Or.inl rfl) (fun hG8 => wpN ?_); clear hK hG7
   refine wpS1 8 hG8 ?_; intro hG9; clear hG8
   refine wpS1 9 hG9 ?_; intro hG10; clear hG9
   refine wpS1 10 hG10 ?_; intro hG11; clear hG10
   refine wpS1 11 hG11 ?_; intro hG12; clear hG11
   refine wpS1 12 hG12 ?_; intro hG13; clear hG12
   refine wpAnyG_done (by kernel_rfl) ?_ _; clear hG13
   have HB13 := Lib.hid (show Below W1.heap.size W1 w3 from HBV.out.trans (HB3.out.mono hzV))
   have H3 := Lib.hid (H1.out.up HB13.out)
   have HK3 := Lib.hid (show Kb (fun b => b = X) w w3 from Kb.of_below (HB1.out.trans (HB13.out.mono hz1)))
   have hX3 := H3.out.box.lt
   by_cases hec : ec = 0
   ·subst hec
    obtain ⟨_, horl, hnd, hme, hff, hol⟩ : _ := HCASE.out.resolve_right (fun h => absurd h.1 (by decide))
    have HME := Lib.hid hme
    have HFF := Lib.hid hff
    have holn := np_bound hnd hff
    rw [hls_len] at holn
    have hXw : X < W1.heap.size := by omega
    have HRL := Lib.hid (show Rls w3 (fun b => b = X) A3 os from Orl.rls ⟨horl.own, fun y hy => (horl.fac y hy).sub (fun b _ hb => .inl (by rw [hb]; simp; omega))⟩ (by omega) (fun b off e hb => by
     subst e
     have := (horl.own.lt b rfl).1
     simp at this
     omega))
    rw [erV_0]
    clear horl hnd hme hff HCASE
    go_wp2_with fail
    go_loopw [55] (fun v55 wr => ∃ (i : Nat) (s' : Int), v55 = .int .i64 i ∧ i ≤ os.length ∧ s' ≤ s ∧ Hid (CkSt X t p b A ns c s' wr) ∧ Hid (Rls wr (fun b => b = X) A3 os) ∧ Hid (Kb (fun b => b = X) w wr) ∧ Hid (∀ m, m < i → CovP t.vars (hd os m).l (hls (cntL ns (dsX b n.d (opr t.ops k).cost) ns.length))) ∧ Hid ((npV t.vars : Int) < s → (∀ z, RegS t.vars (opr t.ops k) n.l z → ∃ m ∈ ns, m.d ≤ dsX b n.d (opr t.ops k).cost ∧ Sub m.l z) → s - i ≤ s')) (fun v55 _ => os.length - (intOf v55).toNat)
    case atStart => exact ⟨0, s, rfl, by omega, Int.le_refl _, H3, HRL, HK3, Lib.hid (fun m hm => absurd hm (by omega)), Lib.hid (fun _ _ => by omega)⟩
    case round =>
     clear HRL HK3 H3 hX3
     obtain ⟨i, s', rfl, hi, hss, HS, HRL, HK, HCV, HCO⟩ := hrel
     obtain ⟨wt, rfl⟩ : ∃ wt : World, wt = wr := ⟨_, rfl⟩
     by_cases hlt : i < os.length
     ·obtain ⟨b1, o1, hA1, hb1, _, hc1⟩ := HRL.out.at_ hlt
      have d1 := hc1 i hlt
      have hfz := HRL.out.fac hlt
      obtain ⟨z, hz⟩ : ∃ z, z = hd os i := ⟨_, rfl⟩
      rw [← hz] at d1 hfz
      have HZ := Lib.hid hz
      have HZR := Lib.hid (show RegS t.vars (opr t.ops k) n.l z.l from (HME.out z.l).1 (by rw [hz]; exact List.mem_map.2 ⟨_, hd_mem hlt, rfl⟩))
      have HZF := Lib.hid (show faB t.vars z.l = true from HFF.out z.l (by rw [hz]; exact List.mem_map.2 ⟨_, hd_mem hlt, rfl⟩))
      have hzl : z.l.length ≤ 140737488355328 := hfz.1
      have KC := Lib.hid (ckcov_any X t p b ns A z.a c z.c s' (dsX b n.d (opr t.ops k).cost) z.l wt HS.out.s0 HS.out.s1 (by omega) HV1.out HS.out.box HS.out.ngs hl HS.out.task.vars hfz)
      rw [HDX.out] at KC
      have hsX := HS.out.box.lt
      rw [hA1]
      clear hc1 hz hfz
      go_wp2_with fail
      refine KC.out.mono ?_
      rintro e w5 ⟨⟨bb, u, ec, s5, rfl, hco, hbx, hcase⟩, hk5⟩
      rw [← HDX.out] at hco
      have HCO5 := Lib.hid hco
      have HK5 := Lib.hid (show Kb (fun b => b = X) w w5 from HK.out.trans hk5)
      have HRL5 := Lib.hid (HRL.out.kb hk5)
      have H5 := Lib.hid (show CkSt X t p b A ns c s5 w5 ∧ s5 ≤ s' from by
       have a0 := HS.out.s0
       have a1 := HS.out.s1
       rcases hcase with ⟨h1, h2⟩ | ⟨h1, h2, _⟩
       ·have := hco.ok h1
        exact ⟨HS.out.next hk5 hbx (by omega) (by omega), by omega⟩
       ·exact ⟨HS.out.next hk5 hbx (by omega) (by omega), by omega⟩)
      have HONE := Lib.hid (show (npV t.vars : Int) < s → (∀ z, RegS t.vars (opr t.ops k) n.l z → ∃ m ∈ ns, m.d ≤ dsX b n.d (opr t.ops k).cost ∧ Sub m.l z) → bb = true ∧ u = 1 ∧ ec = 0 from fun h1 h2 => by
       have h3 := HCO.out h1 h2
       refine hco.one HZF.out (fun h hh => ?_) ?_ (by omega)
       ·obtain ⟨m, hm, rfl⟩ := cntL_in hh; exact HF.out m hm
       ·obtain ⟨m, hm, h4, h5⟩ := h2 _ HZR.out
        exact ⟨m.l, cntL_mem.2 ⟨m, hm, h4, rfl⟩, h5⟩)
      have HCASE5 := Lib.hid hcase
      clear hco hbx hk5 hcase KC d1
      by_cases hec : ec = 0
      ·subst hec
       rw [erV_0]
       cases bb
       ·go_wp2
        refine bodyPost_ret (v := erV 19) (by simp [results, Tryz.results79, go_sem, erV]) rfl ⟨19, s5, rfl, H5.out.1, by have := H5.out.2; omega, HK5.out, fun h => absurd h (by decide), fun _ h1 h2 => ?_⟩
        have := (HONE.out h1 (h2 (by unfold Cnt; rw [← HCST.out]; omega))).1
        cases this
       ·have HCV2 := Lib.hid (show ∀ m, m < i + 1 → CovP t.vars (hd os m).l (hls (cntL ns (dsX b n.d (opr t.ops k).cost) ns.length)) from fun m hm => by
         rcases Nat.lt_succ_iff_lt_or_eq.1 hm with h1 | rfl
         ·exact HCV.out m h1
         ·rw [← HZ.out]; exact (HCO5.out.ok rfl).2.2 rfl)
        have HCO2 := Lib.hid (show (npV t.vars : Int) < s → (∀ z, RegS t.vars (opr t.ops k) n.l z → ∃ m ∈ ns, m.d ≤ dsX b n.d (opr t.ops k).cost ∧ Sub m.l z) → s - ((i + 1 : Nat) : Int) ≤ s5 from fun h1 h2 => by
         have h3 := HCO.out h1 h2
         have h4 := (HONE.out h1 h2).2.1
         rcases HCASE5.out with ⟨_, h6⟩ | ⟨h6, _⟩
         ·omega
         ·exact absurd rfl h6)
        have hs5 : s5 ≤ s := by have := H5.out.2; omega
        go_wp2
        go_roundw
        case rel => exact ⟨i + 1, s5, by go_num, by omega, hs5, Lib.hid H5.out.1, Lib.hid (by have h := HRL5.out; rw [hA1] at h; exact h), HK5, HCV2, HCO2⟩
        case measure => simp [intOf]; omega
      ·have HEC := Lib.hid hec
       rw [erV_nz hec]
       go_wp2
       refine bodyPost_ret (v := erV ec) (by simp [results, Tryz.results79, go_sem, erV_nz hec]) rfl ⟨ec, s5, rfl, H5.out.1, by have := H5.out.2; omega, HK5.out, fun h => absurd h HEC.out, fun _ h1 h2 => ?_⟩
       exact absurd (HONE.out h1 (h2 (by unfold Cnt; rw [← HCST.out]; omega))).2.2 HEC.out
     ·obtain rfl : i = os.length := by omega
      go_wp2
      refine bodyPost_ret (v := erV 0) (by simp [results, Tryz.results79, go_sem, erV]) rfl ⟨0, s', rfl, HS.out, hss, HK.out, fun _ _ z hz => ?_, fun _ h1 h2 => ⟨rfl, ?_⟩⟩
      ·obtain ⟨m, hm, rfl⟩ := mem_hls.1 ((HME.out z).2 hz)
       exact HCV.out m hm
      ·have := HCO.out h1 (h2 (by unfold Cnt; rw [← HCST.out]; omega))
       omega
   ·have HEC := Lib.hid hec
    have HC5 := Lib.hid (HCASE.out.resolve_left (fun h => HEC.out h.1))
    rw [erV_nz hec]
    go_wp2
    refine bodyPost_ret (v := erV ec) (by simp [results, Tryz.results79, go_sem, erV_nz hec]) rfl ⟨ec, s, rfl, H3.out, Int.le_refl _, HK3.out, fun h => absurd h HEC.out, fun h => absurd HC5.out.2.2 (by omega)⟩
 ·have e0 : decide (0 ≤ b) = false := decide_eq_false hb0
  have HDX := Lib.hid (show dsX b n.d (opr t.ops k).cost = 0 by unfold dsX; rw [if_pos (by omega)])
  clear hdb
  go_enter Tryz.func79, Tryz.ntmps79
  go_wp2_with fail
  rw [← hW1]
  clear hW1 y4 y41 n1 e0
  obtain ⟨V, hV⟩ : ∃ V : World, V = W1 := ⟨_, rfl⟩
  have HBV := Lib.hid (show Below W1.heap.size W1 V by rw [hV]; exact Below.refl _ _)
  rw [← hV]
  clear hV
  have HSV := Lib.hid (show ∀ w' : World, Below V.heap.size V w' → _ from fun w' hb' => HS1.out w' (HBV.out.trans (hb'.mono HBV.out.size)))
  have KRV := Lib.hid (show ∀ W : World, Below V.heap.size V W → _ from fun W hb' => KR.out W (HBV.out.trans (hb'.mono HBV.out.size)))
  have hzV := HBV.out.size
  have HK1 := Lib.hid HB1.out.size
  clear KR HS1
  refine wp_region_G 7 (fun w' => (w'.cell? ⟨X, 0, none⟩ = some (.slice p.av t.vars.length p.cv) ∧ w'.cell? ⟨X, 1, none⟩ = some (.slice p.ai t.init.length p.ci) ∧ w'.cell? ⟨X, 2, none⟩ = some (.slice p.ag t.goal.length p.cg) ∧ w'.cell? ⟨X, 3, none⟩ = some (.slice p.ao t.ops.length p.co)) ∧ w'.cell? ⟨w.heap.size, 0, none⟩ = some (.slice n.a n.l.length n.c)) (by kernel_rfl) (HSV.out _ (by exact bel)) ?_
  intro hG0
  refine wpS1 0 hG0 ?_; intro hG1; clear hG0
  refine wpS1 1 hG1 ?_; intro hG2; clear hG1
  refine wpS1 2 hG2 ?_; intro hG3; clear hG2
  refine wpS2 3 hG3 ?_; intro hG4; clear hG3
  refine wpS1 4 hG4 ?_; intro hG5; clear hG4
  refine wpS1 5 hG5 ?_; intro hG6; clear hG5
  refine wpS2 6 hG6 ?_; intro hG7; clear hG6
  refine wpAnyG_ready (rs := [7]) (by kernel_rfl) (by simp) (AllG.cons rfl hG7 (fun K hK => ?_) AllG.nil)
  (go_simp; go_at_call 38; refine (KRV.out _ (by exact bel)).mono ?_; rintro e w3 ⟨hcs, hb3⟩; have HB3 := Lib.hid (show Below V.heap.size V w3 from below_step hb3 (show V.heap.size ≤ _ by simp) (show Below V.heap.size V _ by exact bel)); have hz3 := HB3.out.size; obtain ⟨A3, c3, os, ec, rfl, hcase⟩ := listRet_alt hcs; have HCASE := Lib.hid hcase; clear hcs hb3 hcase)
  refine hK.out _ _ (Or.inl rfl) (fun hG8 => wpN ?_); clear hK hG7
  refine wpS1 8 hG8 ?_; intro hG9; clear hG8
  refine wpS1 9 hG9 ?_; intro hG10; clear hG9
  refine wpS1 10 hG10 ?_; intro hG11; clear hG10
  refine wpS1 11 hG11 ?_; intro hG12; clear hG11
  refine wpS1 12 hG12 ?_; intro hG13; clear hG12
  refine wpAnyG_done (by kernel_rfl) ?_ _; clear hG13
  have HB13 := Lib.hid (show Below W1.heap.size W1 w3 from HBV.out.trans (HB3.out.mono hzV))
  have H3 := Lib.hid (H1.out.up HB13.out)
  have HK3 := Lib.hid (show Kb (fun b => b = X) w w3 from Kb.of_below (HB1.out.trans (HB13.out.mono hz1)))
  have hX3 := H3.out.box.lt
  by_cases hec : ec = 0
  ·subst hec
   obtain ⟨_, horl, hnd, hme, hff, hol⟩ : _ := HCASE.out.resolve_right (fun h => absurd h.1 (by decide))
   have HME := Lib.hid hme
   have HFF := Lib.hid hff
   have holn := np_bound hnd hff
   rw [hls_len] at holn
   have hXw : X < W1.heap.size := by omega
   have HRL := Lib.hid (show Rls w3 (fun b => b = X) A3 os from Orl.rls ⟨horl.own, fun y hy => (horl.fac y hy).sub (fun b _ hb => .inl (by rw [hb]; simp; omega))⟩ (by omega) (fun b off e hb => by
    subst e
    have := (horl.own.lt b rfl).1
    simp at this
    omega))
   rw [erV_0]
   clear horl hnd hme hff HCASE
   go_wp2_with fail
   go_loopw [55] (fun v55 wr => ∃ (i : Nat) (s' : Int), v55 = .int .i64 i ∧ i ≤ os.length ∧ s' ≤ s ∧ Hid (CkSt X t p b A ns c s' wr) ∧ Hid (Rls wr (fun b => b = X) A3 os) ∧ Hid (Kb (fun b => b = X) w wr) ∧ Hid (∀ m, m < i → CovP t.vars (hd os m).l (hls (cntL ns (dsX b n.d (opr t.ops k).cost) ns.length))) ∧ Hid ((npV t.vars : Int) < s → (∀ z, RegS t.vars (opr t.ops k) n.l z → ∃ m ∈ ns, m.d ≤ dsX b n.d (opr t.ops k).cost ∧ Sub m.l z) → s - i ≤ s')) (fun v55 _ => os.length - (intOf v55).toNat)
   case atStart => exact ⟨0, s, rfl, by omega, Int.le_refl _, H3, HRL, HK3, Lib.hid (fun m hm => absurd hm (by omega)), Lib.hid (fun _ _ => by omega)⟩
   case round =>
    clear HRL HK3 H3 hX3
    obtain ⟨i, s', rfl, hi, hss, HS, HRL, HK, HCV, HCO⟩ := hrel
    obtain ⟨wt, rfl⟩ : ∃ wt : World, wt = wr := ⟨_, rfl⟩
    by_cases hlt : i < os.length
    ·obtain ⟨b1, o1, hA1, hb1, _, hc1⟩ := HRL.out.at_ hlt
     have d1 := hc1 i hlt
     have hfz := HRL.out.fac hlt
     obtain ⟨z, hz⟩ : ∃ z, z = hd os i := ⟨_, rfl⟩
     rw [← hz] at d1 hfz
     have HZ := Lib.hid hz
     have HZR := Lib.hid (show RegS t.vars (opr t.ops k) n.l z.l from (HME.out z.l).1 (by rw [hz]; exact List.mem_map.2 ⟨_, hd_mem hlt, rfl⟩))
     have HZF := Lib.hid (show faB t.vars z.l = true from HFF.out z.l (by rw [hz]; exact List.mem_map.2 ⟨_, hd_mem hlt, rfl⟩))
     have hzl : z.l.length ≤ 140737488355328 := hfz.1
     have KC := Lib.hid (ckcov_any X t p b ns A z.a c z.c s' (dsX b n.d (opr t.ops k).cost) z.l wt HS.out.s0 HS.out.s1 (by omega) HV1.out HS.out.box HS.out.ngs hl HS.out.task.vars hfz)
     rw [HDX.out] at KC
     have hsX := HS.out.box.lt
     rw [hA1]
     clear hc1 hz hfz
     go_wp2_with fail
     refine KC.out.mono ?_
     rintro e w5 ⟨⟨bb, u, ec, s5, rfl, hco, hbx, hcase⟩, hk5⟩
     rw [← HDX.out] at hco
     have HCO5 := Lib.hid hco
     have HK5 := Lib.hid (show Kb (fun b => b = X) w w5 from HK.out.trans hk5)
     have HRL5 := Lib.hid (HRL.out.kb hk5)
     have H5 := Lib.hid (show CkSt X t p b A ns c s5 w5 ∧ s5 ≤ s' from by
      have a0 := HS.out.s0
      have a1 := HS.out.s1
      rcases hcase with ⟨h1, h2⟩ | ⟨h1, h2, _⟩
      ·have := hco.ok h1
       exact ⟨HS.out.next hk5 hbx (by omega) (by omega), by omega⟩
      ·exact ⟨HS.out.next hk5 hbx (by omega) (by omega), by omega⟩)
     have HONE := Lib.hid (show (npV t.vars : Int) < s → (∀ z, RegS t.vars (opr t.ops k) n.l z → ∃ m ∈ ns, m.d ≤ dsX b n.d (opr t.ops k).cost ∧ Sub m.l z) → bb = true ∧ u = 1 ∧ ec = 0 from fun h1 h2 => by
      have h3 := HCO.out h1 h2
      refine hco.one HZF.out (fun h hh => ?_) ?_ (by omega)
      ·obtain ⟨m, hm, rfl⟩ := cntL_in hh; exact HF.out m hm
      ·obtain ⟨m, hm, h4, h5⟩ := h2 _ HZR.out
       exact ⟨m.l, cntL_mem.2 ⟨m, hm, h4, rfl⟩, h5⟩)
     have HCASE5 := Lib.hid hcase
     clear hco hbx hk5 hcase KC d1
     by_cases hec : ec = 0
     ·subst hec
      rw [erV_0]
      cases bb
      ·go_wp2
       refine bodyPost_ret (v := erV 19) (by simp [results, Tryz.results79, go_sem, erV]) rfl ⟨19, s5, rfl, H5.out.1, by have := H5.out.2; omega, HK5.out, fun h => absurd h (by decide), fun _ h1 h2 => ?_⟩
       have := (HONE.out h1 (h2 (by unfold Cnt; rw [← HCST.out]; omega))).1
       cases this
      ·have HCV2 := Lib.hid (show ∀ m, m < i + 1 → CovP t.vars (hd os m).l (hls (cntL ns (dsX b n.d (opr t.ops k).cost) ns.length)) from fun m hm => by
        rcases Nat.lt_succ_iff_lt_or_eq.1 hm with h1 | rfl
        ·exact HCV.out m h1
        ·rw [← HZ.out]; exact (HCO5.out.ok rfl).2.2 rfl)
       have HCO2 := Lib.hid (show (npV t.vars : Int) < s → (∀ z, RegS t.vars (opr t.ops k) n.l z → ∃ m ∈ ns, m.d ≤ dsX b n.d (opr t.ops k).cost ∧ Sub m.l z) → s - ((i + 1 : Nat) : Int) ≤ s5 from fun h1 h2 => by
        have h3 := HCO.out h1 h2
        have h4 := (HONE.out h1 h2).2.1
        rcases HCASE5.out with ⟨_, h6⟩ | ⟨h6, _⟩
        ·omega
        ·exact absurd rfl h6)
       have hs5 : s5 ≤ s := by have := H5.out.2; omega
       go_wp2
       go_roundw
       case rel => exact ⟨i + 1, s5, by go_num, by omega, hs5, Lib.hid H5.out.1, Lib.hid (by have h := HRL5.out; rw [hA1] at h; exact h), HK5, HCV2, HCO2⟩
       case measure => simp [intOf]; omega
     ·have HEC := Lib.hid hec
      rw [erV_nz hec]
      go_wp2
      refine bodyPost_ret (v := erV ec) (by simp [results, Tryz.results79, go_sem, erV_nz hec]) rfl ⟨ec, s5, rfl, H5.out.1, by have := H5.out.2; omega, HK5.out, fun h => absurd h HEC.out, fun _ h1 h2 => ?_⟩
      exact absurd (HONE.out h1 (h2 (by unfold Cnt; rw [← HCST.out]; omega))).2.2 HEC.out
    ·obtain rfl : i = os.length := by omega
     go_wp2
     refine bodyPost_ret (v := erV 0) (by simp [results, Tryz.results79, go_sem, erV]) rfl ⟨0, s', rfl, HS.out, hss, HK.out, fun _ _ z hz => ?_, fun _ h1 h2 => ⟨rfl, ?_⟩⟩
     ·obtain ⟨m, hm, rfl⟩ := mem_hls.1 ((HME.out z).2 hz)
      exact HCV.out m hm
     ·have := HCO.out h1 (h2 (by unfold Cnt; rw [← HCST.out]; omega))
      omega
  ·have HEC := Lib.hid hec
   have HC5 := Lib.hid (HCASE.out.resolve_left (fun h => HEC.out h.1))
   rw [erV_nz hec]
   go_wp2
   refine bodyPost_ret (v := erV ec) (by simp [results, Tryz.results79, go_sem, erV_nz hec]) rfl ⟨ec, s, rfl, H3.out, Int.le_refl _, HK3.out, fun h => absurd h HEC.out, fun h => absurd HC5.out.2.2 (by omega)⟩
end Go.Proofs.YtlkebhiaimijiaaGreatDoor

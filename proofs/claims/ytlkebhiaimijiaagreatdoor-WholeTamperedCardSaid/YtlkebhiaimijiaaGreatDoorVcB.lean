/- checker: counting, covered, walked. -/
import Derived.Test.YtlkebhiaimijiaaGreatDoorNgE
import Derived.Test.YtlkebhiaimijiaaGreatDoorVcA
namespace Go.Proofs.YtlkebhiaimijiaaGreatDoor
set_option linter.unusedSimpArgs false
set_option linter.unusedVariables false
open Go Go.RowKit
set_option linter.unusedVariables false

/-- The checker's box: the task, the certificate, the steps left. -/
def CkB (w : World) (X : Nat) (t : Tsk) (p : Lies) (b : Int) (A : Option Addr) (n c : Nat) (s : Int) : Prop :=
  BxI w X 156 #[.slice p.av t.vars.length p.cv, .slice p.ai t.init.length p.ci, .slice p.ag t.goal.length p.cg, .slice p.ao t.ops.length p.co, .int .i64 b, .slice A n c, .int .i64 s]
/-- The nogoods of at most a distance among the first i. -/
def cntL (ns : List Ngd) (d : Int) (i : Nat) : List Hd := ((ns.take i).filter fun n => decide (n.d ≤ d)).map fun n => ⟨n.a, n.c, n.l⟩
theorem take_ng {ns : List Ngd} {i : Nat} (h : i < ns.length) : ns.take (i + 1) = ns.take i ++ [ng ns i] := by
  have e : ns[i] = ng ns i := by unfold ng; simp [List.getD, List.getElem?_eq_getElem h]
  rw [← List.take_append_getElem h, e]
theorem cntL_yes {ns : List Ngd} {d : Int} {i : Nat} (hi : i < ns.length) (h : (ng ns i).d ≤ d) : cntL ns d (i + 1) = cntL ns d i ++ [⟨(ng ns i).a, (ng ns i).c, (ng ns i).l⟩] := by
  unfold cntL; rw [take_ng hi, List.filter_append, List.map_append]; simp [h]
theorem cntL_no {ns : List Ngd} {d : Int} {i : Nat} (hi : i < ns.length) (h : ¬ (ng ns i).d ≤ d) : cntL ns d (i + 1) = cntL ns d i := by
  unfold cntL; rw [take_ng hi, List.filter_append, List.map_append]; simp [h]
theorem cntL_len (ns : List Ngd) (d : Int) (i : Nat) : (cntL ns d i).length ≤ i := by
  unfold cntL
  rw [List.length_map]
  exact Nat.le_trans (List.length_filter_le _ _) (by rw [List.length_take]; omega)
theorem cntL_mem {ns : List Ngd} {d : Int} {z : List Fct} : z ∈ hls (cntL ns d ns.length) ↔ ∃ n ∈ ns, n.d ≤ d ∧ n.l = z := by
  unfold hls cntL
  rw [List.take_length]
  simp only [List.mem_map, List.mem_filter, decide_eq_true_eq]
  constructor
  · rintro ⟨h, ⟨n, ⟨h1, h2⟩, rfl⟩, rfl⟩; exact ⟨n, h1, h2, rfl⟩
  · rintro ⟨n, h1, h2, rfl⟩; exact ⟨_, ⟨n, ⟨h1, h2⟩, rfl⟩, rfl⟩
theorem cntL_in {ns : List Ngd} {d : Int} {i : Nat} {h : Hd} (hh : h ∈ cntL ns d i) : ∃ n ∈ ns, h = ⟨n.a, n.c, n.l⟩ := by
  unfold cntL at hh
  simp only [List.mem_map, List.mem_filter] at hh
  obtain ⟨n, ⟨h1, _⟩, rfl⟩ := hh
  exact ⟨n, List.mem_of_mem_take h1, rfl⟩

set_option maxRecDepth 20000 in
set_option maxHeartbeats 8000000 in
theorem counting_any (X : Nat) (t : Tsk) (p : Lies) (b : Int) (ns : List Ngd) (A : Option Addr) (c : Nat) (s d : Int) (w : World) (hx : CkB w X t p b A ns.length c s) (h : Nls w (fun _ => False) A ns) (hl : ns.length ≤ 4096) :
    Calls Tryz.prog 108 #[.pointer (some ⟨X, 0, none⟩), .int .i64 d] w fun e w' => (∃ (L : Option Addr) (lc : Nat), e = .returned (.slice L (cntL ns d ns.length).length lc) ∧ Rls w' (fun _ => False) L (cntL ns d ns.length)) ∧ Below w.heap.size w w' := by
  obtain ⟨inf, hinf, iz0, iz1, iz2⟩ := info_parts ninfL
  have HX := Lib.hid hx
  have H := Lib.hid h
  have hXlt := hx.lt
  have x5 := hx.cell 5 (.slice A ns.length c) rfl
  clear hx h
  go_enter Tryz.func108, Tryz.ntmps108
  go_wp2_with fail
  go_loopw [5, 14] (fun v5 v14 wr => ∃ (k : Nat) (OA : Option Addr) (OC : Nat), v5 = .slice OA (cntL ns d k).length OC ∧ v14 = .int .i64 k ∧ k ≤ ns.length ∧ Hid (wr.ownsRow w.heap.size 23 1 (.slice OA (cntL ns d k).length OC) (cntL ns d k).length ((cntL ns d k).map Hd.v)) ∧ Hid (Below w.heap.size w wr)) (fun _ v14 _ => ns.length - (intOf v14).toNat)
  case atStart => exact ⟨0, none, 0, rfl, rfl, by omega, Lib.hid (World.ownsRow_nil _ _ _ _), Lib.hid (Below.refl _ _)⟩
  case round =>
    clear x5
    obtain ⟨k, OA, OC, rfl, rfl, hk, HO, HE⟩ := hrel
    obtain ⟨wt, rfl⟩ : ∃ wt : World, wt = wr := ⟨_, rfl⟩
    have hzt := HE.out.size
    by_cases hlt : k < ns.length
    · obtain ⟨nb, no, hA, hnb, n1, n2⟩ := (H.out.up HE.out).at_ hlt
      obtain ⟨n, hn⟩ : ∃ n, n = ng ns k := ⟨_, rfl⟩
      rw [← hn] at n1 n2
      have hY := cntL_yes (d := d) hlt
      have hN := cntL_no (d := d) hlt
      rw [← hn] at hY hN
      obtain ⟨m, hm⟩ : ∃ m, m = (cntL ns d k).length := ⟨_, rfl⟩
      have hmk : m ≤ k := by rw [hm]; exact cntL_len _ _ _
      have HO1 := Lib.hid HO.out
      rw [← hm] at HO1
      have HM := Lib.hid hm
      rw [← hm]
      have HY := Lib.hid hY
      have HNN := Lib.hid hN
      rw [hA]
      clear hn hY hN hm
      by_cases hd : n.d ≤ d
      · go_wp2_with (at_builtin; refine wpList_append_src (by rfl) _ _ 77 (by rfl) w.heap.size 23 inf (.slice none 0 0) 1 24 nundL hinf iz0 iz1 iz2 rfl (by decide) (.slice OA m OC) m ((cntL ns d k).map Hd.v) (by rfl) (by exact (HO1.out.alloc _).alloc _) (some ⟨wt.heap.size + 1, 0, none⟩) 1 1 [.slice n.a n.l.length n.c] (by rfl) (src_of (BxI.new2 wt _ 23 _) rfl (by intro u hu; simp at hu; subst hu; rfl)) (by unfold maxLen; omega) (by omega) (by first | omega | (simp; done) | (simp; omega)) ?_; intro v4 w4 hown4 hgrow4 hat4; obtain ⟨A4, c4, rfl⟩ := own_shape hown4; have HO4 := Lib.hid hown4; have HG4 := Lib.hid hgrow4; have HA4 := Lib.hid hat4; clear hown4 hgrow4 hat4)
        have HE4 := Lib.hid (show Below w.heap.size w w4 from ((HE.out.alloc hzt _).alloc (by simp; omega) _).grown HG4.out (by simp; omega) (fun b hb => (HO1.out.lt b hb).1))
        have HL := Lib.hid (show (cntL ns d (k + 1)).length = m + 1 by rw [HY.out hd, List.length_append, ← HM.out]; rfl)
        go_roundw
        case rel => exact ⟨k + 1, A4, c4, by rw [HL.out], by go_num, by omega, Lib.hid (by rw [HL.out, HY.out hd, List.map_append]; exact HO4.out), HE4⟩
        case measure => simp [intOf]; omega
      · go_wp2
        go_roundw
        case rel => exact ⟨k + 1, OA, OC, by rw [HNN.out hd, HM.out], by go_num, by omega, Lib.hid (by rw [HNN.out hd]; exact HO.out.alloc _), Lib.hid (HE.out.alloc hzt _)⟩
        case measure => simp [intOf]; omega
    · obtain rfl : k = ns.length := by omega
      have HR := Lib.hid (show Rls wt (fun _ => False) OA (cntL ns d ns.length) from Orl.rls ⟨HO.out, fun x hx => by
        obtain ⟨n, hn, rfl⟩ := cntL_in hx
        exact (H.out.up HE.out).2.2 n hn⟩ (by have := cntL_len ns d ns.length; omega) (fun _ _ _ h => h))
      go_wp2
      refine bodyPost_ret (v := .slice OA (cntL ns d ns.length).length OC) (by simp [results, Tryz.results108, go_sem]) rfl ⟨⟨OA, OC, rfl, HR.out⟩, HE.out⟩

/-- What covered leaves. -/
def CkRet (t : Tsk) (p : Lies) (bd : Int) (A : Option Addr) (n c : Nat) (X : Nat) (z : List Fct) (hs : List Hd) (s : Int) (w : World) (e : Ending) (w' : World) : Prop :=
  (∃ (b : Bool) (u ec s' : Int), e = .returned (.tuple #[.bool b, erV ec]) ∧ CovOut t.vars z hs s b u ec ∧ CkB w' X t p bd A n c s' ∧ ((ec = 0 ∧ s' = s - u) ∨ (ec ≠ 0 ∧ s' = s ∧ b = false))) ∧ Kb (fun b => b = X) w w'

set_option maxRecDepth 20000 in
set_option maxHeartbeats 8000000 in
theorem ckcov_any (X : Nat) (t : Tsk) (p : Lies) (b : Int) (ns : List Ngd) (A Z : Option Addr) (c zc : Nat) (s d : Int) (z : List Fct) (w : World) (hs0 : 0 ≤ s) (hs1 : s ≤ 1048576) (hv : t.vars.length ≤ 1000) (hdm : ∀ k, k < t.vars.length → nth t.vars k ≤ 1000)
    (hx : CkB w X t p b A ns.length c s) (h : Nls w (fun b => b = X) A ns) (hl : ns.length ≤ 4096) (h1 : IntsAt w X p.av t.vars) (h2 : Fac w (fun b => b = X) Z z) :
    Calls Tryz.prog 78 #[.pointer (some ⟨X, 0, none⟩), .slice Z z.length zc, .int .i64 d] w fun e w' => CkRet t p b A ns.length c X z (cntL ns d ns.length) s w e w' := by
  have HX := Lib.hid hx
  have H := Lib.hid h
  have H1 := Lib.hid h1
  have H2 := Lib.hid h2
  have hXlt := hx.lt
  have KC := Lib.hid (fun W (k : Below w.heap.size w W) => counting_any X t p b ns A c s d W (hx.up k) ((h.up k).sub fun _ _ h => h.elim) hl)
  have KV := Lib.hid (fun W (k : Below w.heap.size w W) L lc (hr : Rls W (fun _ => False) L (cntL ns d ns.length)) => covered_any t.vars z (cntL ns d ns.length) p.av Z L p.cv zc lc s W hs0 hs1 hv hdm (h1.keep (fun q hq => k.cell (Nat.lt_trans hq hXlt)) (Nat.le_trans (Nat.le_of_lt hXlt) k.size)) (h2.up k).at_ hr)
  have HS1 := Lib.hid (show ∀ w' : World, Below w.heap.size w w' → w'.cell? ⟨X, 0, none⟩ = some (.slice p.av t.vars.length p.cv) ∧ w'.cell? ⟨X, 6, none⟩ = some (.int .i64 s) from fun w' hb' => ⟨(hx.up hb').cell 0 _ rfl, (hx.up hb').cell 6 _ rfl⟩)
  obtain ⟨L0, hL0⟩ : ∃ L0, L0 = cntL ns d ns.length := ⟨_, rfl⟩
  rw [← hL0] at KC KV ⊢
  have HL0 := Lib.hid hL0
  clear hx h h1 h2 hL0
  go_enter Tryz.func78, Tryz.ntmps78
  go_wp2_with fail
  refine wp_region_G 13 (fun w' => w'.cell? ⟨X, 0, none⟩ = some (.slice p.av t.vars.length p.cv) ∧ w'.cell? ⟨X, 6, none⟩ = some (.int .i64 s)) (by kernel_rfl) (HS1.out _ (by repeat (first | exact Below.refl _ _ | refine below_dN ?_ _ | refine Below.drew ?_ | refine Below.alloc ?_ (by first | omega | (simp; done) | (simp; omega)) _ | refine Below.setCell ?_ (by first | omega | (simp; done) | (simp; omega)) _ | refine below_step (by assumption) (by first | omega | (simp; done) | (simp; omega)) ?_))) ?_
  intro hG0
  refine wpS1 0 hG0 ?_; intro hG1; clear hG0
  refine wpS1 1 hG1 ?_; intro hG2; clear hG1
  refine wpS1 2 hG2 ?_; intro hG3; clear hG2
  refine wpS1 3 hG3 ?_; intro hG4; clear hG3
  refine wpS2 4 hG4 ?_; intro hG5; clear hG4
  refine wpS1 5 hG5 ?_; intro hG6; clear hG5
  refine wpS1 6 hG6 ?_; intro hG7; clear hG6
  refine wpS1 7 hG7 ?_; intro hG8; clear hG7
  refine wpS1 9 hG8 ?_; intro hG9; clear hG8
  refine wpS1 10 hG9 ?_; intro hG10; clear hG9
  refine wpS1 11 hG10 ?_; intro hG11; clear hG10
  refine wpS2 12 hG11 ?_; intro hG12; clear hG11
  refine wpAnyG_ready (rs := [8]) (by kernel_rfl) (by simp) (AllG.cons rfl hG12 (fun K hK => ?_) AllG.nil)
  (go_simp; go_at_call 108; refine (KC.out _ (by repeat (first | exact Below.refl _ _ | refine below_dN ?_ _ | refine Below.drew ?_ | refine Below.alloc ?_ (by first | omega | (simp; done) | (simp; omega)) _ | refine Below.setCell ?_ (by first | omega | (simp; done) | (simp; omega)) _ | refine below_step (by assumption) (by first | omega | (simp; done) | (simp; omega)) ?_))).mono ?_; rintro e w1 ⟨⟨L, lc, rfl, hrl⟩, hb1⟩; have HB1 := Lib.hid (show Below w.heap.size w w1 from below_step hb1 (show w.heap.size ≤ w.drew.heap.size from Nat.le_refl _) (Below.refl _ _).drew); have HRL := Lib.hid hrl; clear hb1 hrl)
  refine hK.out _ _ (Or.inr (HS1.out _ HB1.out)) (fun hG13 => wpN ?_); clear hK hG12
  refine wpAnyG_ready (rs := [13]) (by kernel_rfl) (by simp) (AllG.cons rfl hG13 (fun K hK => ?_) AllG.nil)
  (go_simp; go_at_call 107; refine (KV.out _ HB1.out _ _ HRL.out).mono ?_; rintro e w2 ⟨⟨bb, u, ec, rfl, hco⟩, hb2⟩; have HB2 := Lib.hid (show Below w.heap.size w w2 from HB1.out.trans (hb2.mono HB1.out.size)); have HCO := Lib.hid hco; clear hb2 hco)
  refine hK.out _ _ (Or.inl rfl) (fun hG14 => wpN ?_); clear hK hG13
  refine wpS1 14 hG14 ?_; intro hG15; clear hG14
  refine wpS1 15 hG15 ?_; intro hG16; clear hG15
  refine wpS1 16 hG16 ?_; intro hG17; clear hG16
  refine wpS1 17 hG17 ?_; intro hG18; clear hG17
  refine wpS1 18 hG18 ?_; intro hG19; clear hG18
  refine wpS1 19 hG19 ?_; intro hG20; clear hG19
  refine wpS1 20 hG20 ?_; intro hG21; clear hG20
  refine wpAnyG_done (by kernel_rfl) ?_ _; clear hG21
  have HX2 := Lib.hid (HX.out.up HB2.out)
  have x6 := HX2.out.cell 6 (.int .i64 s) rfl
  have hXl2 := HX2.out.lt
  by_cases e0 : ec = 0
  · subst e0
    have hok := HCO.out.ok rfl
    obtain ⟨hu0, hu1, _⟩ := hok
    rw [erV_0]
    have xf := HX2.out.fz 6
    have HXY := Lib.hid (show CkB (w2.setCell ⟨X, 6, none⟩ (.int .i64 (s - u))) X t p b A ns.length c (s - u) from HX2.out.set 6 _)
    have HKY := Lib.hid (show Kb (fun b => b = X) w (w2.setCell ⟨X, 6, none⟩ (.int .i64 (s - u))) from Kb.set (bad := fun b => b = X) (p := ⟨X, 6, none⟩) (Kb.of_below HB2.out) (.inl rfl) _)
    go_wp2
    refine bodyPost_ret (v := .tuple #[.bool bb, erV 0]) (by simp [results, Tryz.results78, go_sem, erV]) rfl ⟨⟨bb, u, 0, s - u, rfl, HCO.out, HXY.out, .inl ⟨rfl, rfl⟩⟩, HKY.out⟩
  · have HE0 := Lib.hid e0
    rw [erV_nz e0]
    go_wp2
    refine bodyPost_ret (v := .tuple #[.bool false, erV ec]) (by simp [results, Tryz.results78, go_sem, erV_nz e0]) rfl ⟨⟨false, u, ec, s, rfl, ?_, HX2.out, .inr ⟨HE0.out, rfl, rfl⟩⟩, Kb.of_below HB2.out⟩
    exact ⟨fun h => absurd h HE0.out, HCO.out.bad, fun a1 a2 a3 a4 => absurd (HCO.out.one a1 a2 a3 a4).2.2 HE0.out⟩
end Go.Proofs.YtlkebhiaimijiaaGreatDoor

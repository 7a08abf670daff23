/- landmark: Cuts. -/
import Derived.Test.YthhfckjddknmeaaLmCu
import Derived.Test.YthhfckjddknmeaaLmE
namespace Go.Proofs.Ythhfckjddknmeaa
set_option linter.unusedSimpArgs false
set_option linter.unusedVariables false
open Go Go.RowKit
set_option linter.unusedVariables false

noncomputable def cuL (t : Tsk) (s : List Int) : List Cut := cuN t s (lmL t s) 1125899906842624 (lmL t s).length
def CutRet (t : Tsk) (s : List Int) (e : Ending) (w' : World) : Prop := ∃ v, e = .returned (.tuple #[v, erV (lmC t s)]) ∧ GotCs w' v (cuL t s)
/-- The two cells of a cut. -/
def cf (S : Option Addr) (n c : Nat) (y : Int) (i : Nat) : Value := if i = 0 then .slice S n c else .int .i64 y
theorem lmL_len2 {t : Tsk} {s : List Int} (hr : Right t) : (lmL t s).length ≤ 4096 := by
  have h := alN_len hr.dom t.vars.length (Nat.le_refl _)
  have hn := hr.nv
  have h2 : (alF t.vars).length ≤ 4096 := by show (alN _ _).length ≤ _; omega
  unfold lmL
  split
  · exact Nat.le_trans (List.length_filter_le _ _) h2
  · simp
theorem row_new2 (w : World) (x y : Value) (T : TypeId) : (w.alloc (.cells #[x, y] T)).rowIs w.heap.size T 2 (fun i => if i = 0 then x else y) :=
  ⟨#[x, y], heap_alloc_new w _, rfl, fun i hi => by
    rcases i with _ | _ | i
    · rfl
    · rfl
    · exact absurd hi (by omega)⟩

set_option maxRecDepth 100000 in
set_option maxHeartbeats 8000000 in
theorem lcuts_any (t : Tsk) (q : LiesF) (G : Nat) (s : List Int) (AS : Option Addr) (cs : Nat) (w : World) (hF : FindAt w G t q) (hs : IntsAt w w.heap.size AS s) (hr : Right t) :
    Calls Try.prog 22 #[.pointer (some ⟨G, 0, none⟩), .slice AS s.length cs] w fun e w' => CutRet t s e w' ∧ Below w.heap.size w w' := by
  have K1 := Lib.hid (lfacts_any t q G s AS cs w hF hs hr)
  have K2 := Lib.hid (fun (a : Int × Int) wx (hb : Below w.heap.size w wx) hst => achs_any t q G s AS cs a wx (hF.up hb) (hs.up hb) hst hr)
  have hln := lmL_len2 (s := s) hr
  have o64 := hr.no
  have HR := Lib.hid hr
  have hst0 : lmC t s = 0 → stB t.vars s = true := fun h => by
    cases e : stB t.vars s
    · unfold lmC at h; rw [e] at h; cases h
    · rfl
  have HG := Lib.hid (show ∀ e w', CutRet t s e w' ↔ ∃ v, e = .returned (.tuple #[v, erV (lmC t s)]) ∧ GotCs w' v (cuN t s (lmL t s) 1125899906842624 (lmL t s).length) from fun e w' => Iff.rfl)
  have HFo := Lib.hid (show ∀ e w', FacRet t s e w' → ∃ v, e = .returned (.tuple #[v, erV (lmC t s)]) ∧ GotFs w' v (lmL t s) from fun e w' h => h)
  have hnil : lmC t s ≠ 0 → lmL t s = [] := fun h => by unfold lmL; rw [if_neg h]
  obtain ⟨F, hFe⟩ : ∃ F, lmL t s = F := ⟨_, rfl⟩
  rw [hFe] at hln HG HFo hnil
  obtain ⟨inf, hi, iz0, iz1, iz2⟩ := info_parts infoCu
  clear hr hFe
  by_cases hc : lmC t s = 0
  case neg =>
    have HF0 := Lib.hid (hnil hc)
    have Hne := Lib.hid (show erV (lmC t s) = .iface 64 (.int .i64 (lmC t s)) by unfold erV; rw [if_neg hc])
    clear hc K2 hst0 hnil hF
    go_enter Try.func22, Try.ntmps22
    go_wp2_with fail
    refine K1.out.mono ?_
    rintro e w1 ⟨hr1, hb1⟩
    obtain ⟨v1, rfl, A1, c1, rfl, _, hf1⟩ := HFo.out _ _ hr1
    rw [Hne.out]
    have HR1 := Lib.hid ((HG.out (.returned (.tuple #[.slice none 0 0, erV (lmC t s)])) w1).2 ⟨_, rfl, by rw [HF0.out]; exact gotCs_nil _⟩)
    clear hr1 hf1
    go_wp2
    refine bodyPost_ret (v := .tuple #[.slice none 0 0, .iface 64 (.int .i64 (lmC t s))]) (by simp [results, Try.results22, go_sem]) rfl ⟨?_, hb1⟩
    rw [← Hne.out]
    exact HR1.out
  have Hst := Lib.hid (hst0 hc)
  have Hc := Lib.hid hc
  obtain ⟨av, ag, ac, au, cv, cg, cc, cu⟩ := q
  obtain ⟨q0, q1, q2, q3, q4, q5, q6, q7, q8⟩ := hF
  dsimp only at *
  clear hc hst0 hnil q1 q2 q4 q5 q6 q8
  go_enter Try.func22, Try.ntmps22
  go_wp2_with fail
  refine K1.out.mono ?_
  rintro e w1 ⟨hr1, hbw1⟩
  obtain ⟨v1, rfl, A1, c1, rfl, _, hf1⟩ := HFo.out _ _ hr1
  rw [Hc.out, erV_0]
  have Hf1 := Lib.hid hf1
  have z1 := hbw1.size
  clear hr1 hf1
  go_wp2
  go_loopw [8, 25] (fun v i wr => ∃ (k : Nat), k ≤ F.length ∧ i = .int .i64 k ∧ Hid (CuRow wr w1.heap.size v (cuN t s F 1125899906842624 k)) ∧ Below w1.heap.size w1 wr) (fun _ i _ => F.length - (intOf i).toNat)
  case atStart => exact ⟨0, by omega, rfl, Lib.hid (CuRow.nil _ _), Below.refl _ _⟩
  case round =>
    obtain ⟨k, hk, rfl, hrow, hbel⟩ := hrel
    have hbz := hbel.size
    have hbwr : Below w.heap.size w wr := hbw1.trans (hbel.mono z1)
    have hcl := cuN_len (t := t) (s := s) (F := F) (M := 1125899906842624) k
    obtain ⟨A0, c0, rfl, hA0, hC0⟩ := hrow.out.got (by omega)
    have HC0 := Lib.hid hC0
    clear hC0
    by_cases hlt : k < F.length
    · obtain ⟨b1, o1, ea, hb1, hc1⟩ := Hf1.out.at_ hlt
      subst ea
      have d1 := (hbel.cell (p := ⟨b1, o1 + k * 2, none⟩) hb1).trans (hc1 k hlt).1
      have d2 := (hbel.cell (p := ⟨b1, o1 + k * 2 + 1, none⟩) hb1).trans (hc1 k hlt).2
      have g1 : b1 < wr.heap.size := by omega
      have k0 : (0 : Int) ≤ (k : Int) := by omega
      have k1 : (k : Int) < (F.length : Int) := by omega
      obtain ⟨wo, rfl⟩ : ∃ wo : World, wo = wr := ⟨_, rfl⟩
      have hbA : Below wo.heap.size wo (wo.alloc (.cells #[.int .i64 (fv F k), .int .i64 (fx F k)] 28)) := (Below.refl _ _).alloc (Nat.le_refl _) _
      have K3 := Lib.hid (K2.out (fac F k) _ (hbwr.trans (hbA.mono hbwr.size)) Hst.out)
      clear hc1
      go_wp2_with fail
      refine K3.out.mono ?_
      rintro e w3 ⟨⟨v3, rfl, S, c3, rfl, hS3, hI3, hlo3⟩, hb3⟩
      have hbo3 : Below wo.heap.size wo w3 := hbA.trans (hb3.mono (by simp))
      have hb13 := hbel.trans (hbo3.mono hbz)
      have z3 : wo.heap.size < w3.heap.size := by have := hb3.size; simp at this; omega
      have hl3 : ∀ a, S = some a → wo.heap.size < a.block := fun a e => by have := hlo3 a e; simp at this; omega
      obtain ⟨O, hO⟩ : ∃ O, ach t s (fac F k) = O := ⟨_, rfl⟩
      have Horg := Lib.hid (show ∀ i, i < O.length → 0 ≤ nth O i ∧ nth O i < t.ops.length from fun i hi => by rw [← hO] at hi ⊢; exact ach_rng hi)
      have hOl : O.length ≤ t.ops.length := by rw [← hO]; exact ach_len
      have Hyes := Lib.hid (fun h => cuN_yes (t := t) (s := s) (F := F) (M := 1125899906842624) (k := k) h)
      have Hno := Lib.hid (fun h => cuN_no (t := t) (s := s) (F := F) (M := 1125899906842624) (k := k) h)
      have hmk : mkC t s 1125899906842624 (fac F k) = ⟨O, mnC t O 1125899906842624 O.length⟩ := by unfold mkC; rw [hO]
      rw [hO] at Hyes Hno hI3
      rw [hmk] at Hno
      rw [hO]
      have HI3 := Lib.hid hI3
      have Hl3 := Lib.hid hl3
      have Hrow3 := Lib.hid (hrow.out.up hbo3)
      have Hrw := hrow
      have hbB : Below w3.heap.size w3 (w3.alloc (.cells #[.slice S O.length c3, .int .i64 1125899906842624] 62)) := (Below.refl _ _).alloc (Nat.le_refl _) _
      have hbo4 := hbo3.trans (hbB.mono hbo3.size)
      have HX := Lib.hid (row_new2 w3 (.slice S O.length c3) (.int .i64 1125899906842624) 62)
      have K4 := Lib.hid (cuCon_any (cuN t s F 1125899906842624 k) O A0 S c0 c3 w3.heap.size (w3.alloc (.cells #[.slice S O.length c3, .int .i64 1125899906842624] 62)) (HC0.out.up hbo4) (hI3.up hbB) (HX.out.cell (i := 0) (by omega)) (by simp))
      clear hI3 hl3 hlo3 d1 d2 g1 K3 hO hmk hrow hA0
      cases e5 : thB (cuN t s F 1125899906842624 k) O (cuN t s F 1125899906842624 k).length
      case true =>
        have Hs := Lib.hid (Hyes.out e5)
        rw [e5] at K4
        clear Hyes Hno e5
        go_wp2_with fail
        refine K4.out.mono ?_
        rintro e w5 ⟨rfl, hb5⟩
        have hbo5 := hbo4.trans (hb5.mono (by have := hbo3.size; simp; omega))
        go_wp2
        go_roundw
        case rel => exact ⟨k + 1, by omega, by go_num, Lib.hid (by rw [Hs.out]; exact Hrw.out.up hbo5), hbel.trans (hbo5.mono hbz)⟩
        case measure => simp [intOf]; omega
      have Hs := Lib.hid (Hno.out e5)
      rw [e5] at K4
      clear Hyes Hno e5
      go_wp2_with fail
      refine K4.out.mono ?_
      rintro e w5 ⟨rfl, hb5⟩
      have hb35 : Below w3.heap.size w3 w5 := hbB.trans (hb5.mono (by simp))
      have hX5 := row_up HX.out hb5
      have z5 : w3.heap.size < w5.heap.size := by have := hb5.size; simp at this; omega
      have u0 := hX5.cell (i := 0) (by omega)
      simp only [↓reduceIte] at u0
      have HX5 : Hid (w5.rowIs w3.heap.size 62 2 (cf S O.length c3 1125899906842624)) := hX5
      clear hX5 hb5
      go_wp2
      go_loopw [40] (fun i wr => ∃ (j : Nat) (y : Int), j ≤ O.length ∧ i = .int .i64 j ∧ Hid (y = mnC t O 1125899906842624 j) ∧ Hid (wr.rowIs w3.heap.size 62 2 (cf S O.length c3 y)) ∧ Hid (w3.heap.size < wr.heap.size) ∧ Below w3.heap.size w3 wr) (fun i _ => O.length - (intOf i).toNat)
      case atStart => exact ⟨0, _, by omega, rfl, Lib.hid rfl, HX5, Lib.hid z5, hb35⟩
      case round =>
        clear u0
        obtain ⟨j, y, hj, rfl, hy, hX, hz, hb3r⟩ := hrel
        have hzr := hz.out
        have hbor : Below wo.heap.size wo wr := hbo3.trans (hb3r.mono hbo3.size)
        have hbw := hbwr.trans (hbor.mono hbwr.size)
        have u0 := hX.out.cell (i := 0) (by omega)
        have u1 := hX.out.cell (i := 1) (by omega)
        have u2 := hX.out.frozen 1
        simp only [cf, ↓reduceIte, Nat.one_ne_zero] at u0 u1
        by_cases hltj : j < O.length
        · obtain ⟨bs, os, es, hbs, hcs⟩ := HI3.out.at_ hltj
          subst es
          obtain ⟨x, hx⟩ : ∃ x : Nat, nth O j = (x : Int) := ⟨(nth O j).toNat, by have := Horg.out j hltj; omega⟩
          have hxl : x < t.ops.length := by have := Horg.out j hltj; omega
          have d0 := (hb3r.cell (p := ⟨bs, os + j, none⟩) hbs).trans (hcs j hltj)
          rw [hx] at d0
          obtain ⟨bc, oc, ec, hbc, hcc⟩ := q7.at_ (k := x) (by rw [cosN_len]; exact hxl)
          subst ec
          have d1 := (hbw.cell (p := ⟨bc, oc + x, none⟩) hbc).trans (hcc x (by rw [cosN_len]; exact hxl))
          rw [cosN_nth hxl] at d1
          have d2 := (hbw.cell (p := ⟨G, 2, none⟩) q0).trans q3
          have gs : bs < wr.heap.size := by omega
          have gc : bc < wr.heap.size := by have := hbw.size; omega
          have gG : G < wr.heap.size := by have := hbw.size; omega
          have j0 : (0 : Int) ≤ (j : Int) := by omega
          have j1 : (j : Int) < (O.length : Int) := by omega
          have x0 : (0 : Int) ≤ (x : Int) := by omega
          have x1 : (x : Int) < (t.ops.length : Int) := by omega
          have HM := Lib.hid (show mnC t O 1125899906842624 (j + 1) = min y (opr t.ops x).cost by rw [mnC_succ, ← hy.out, hx]; simp)
          have hcl5 := cosN_len t t.ops.length
          clear hcs hcc hx hcl5
          obtain ⟨Cx, hCx⟩ : ∃ C, (opr t.ops x).cost = C := ⟨_, rfl⟩
          rw [hCx] at d1 HM
          clear hCx
          go_wp2_with fail
          refine wp_region_G 9 (fun w' => w'.cell? ⟨w3.heap.size, 1, none⟩ = some (.int .i64 y) ∧ w'.cell? ⟨G, 2, none⟩ = some (.slice (some ⟨bc, oc, none⟩) t.ops.length cc) ∧ w'.cell? ⟨bc, oc + x, none⟩ = some (.int .i64 Cx)) (by kernel_rfl) (⟨u1, d2, d1⟩) ?_
          intro hG0
          refine wpAnyG_any (i := 0) (v := ?_) rfl hG0 (by kernel_rfl) (by kernel_rfl) (by kernel_rfl) rfl (fun _ _ _ h => h) (Or.inl ⟨by rfl, ?_⟩) ?_; rotate_left; (intro wS hSw; (try dsimp only at hSw); first | (go_simp; done) | (go_simp; with_reducible rfl) | (simp [go_sem, ↓IntWalk.iteOmega, *]; done) | (simp [go_sem, ↓IntWalk.iteOmega, *]; with_reducible rfl)); (intro hG1); clear hG0; (try simp only [Act.put, List.setIfInBounds_toArray, List.set_cons_zero, List.set_cons_succ, List.getElem_toArray, List.getElem_cons_succ, List.getElem_cons_zero])
          refine wpAnyG_take (i := 1) (v := ?_) rfl hG1 (by kernel_rfl) (by kernel_rfl) (by kernel_rfl) rfl (by kernel_rfl) (fun _ _ _ h => h) (Or.inl ⟨by rfl, ?_⟩) ?_; rotate_left; (intro wS hSw; (try dsimp only at hSw); first | (go_simp; done) | (go_simp; with_reducible rfl) | (simp [go_sem, ↓IntWalk.iteOmega, *]; done) | (simp [go_sem, ↓IntWalk.iteOmega, *]; with_reducible rfl)); (intro hG2); clear hG1; (try simp only [Act.put, List.setIfInBounds_toArray, List.set_cons_zero, List.set_cons_succ, List.getElem_toArray, List.getElem_cons_succ, List.getElem_cons_zero])
          refine wpAnyG_any (i := 2) (v := ?_) rfl hG2 (by kernel_rfl) (by kernel_rfl) (by kernel_rfl) rfl (fun _ _ _ h => h) (Or.inl ⟨by rfl, ?_⟩) ?_; rotate_left; (intro wS hSw; (try dsimp only at hSw); first | (go_simp; done) | (go_simp; with_reducible rfl) | (simp [go_sem, ↓IntWalk.iteOmega, *]; done) | (simp [go_sem, ↓IntWalk.iteOmega, *]; with_reducible rfl)); (intro hG3); clear hG2; (try simp only [Act.put, List.setIfInBounds_toArray, List.set_cons_zero, List.set_cons_succ, List.getElem_toArray, List.getElem_cons_succ, List.getElem_cons_zero])
          refine wpAnyG_any (i := 3) (v := ?_) rfl hG3 (by kernel_rfl) (by kernel_rfl) (by kernel_rfl) rfl (fun _ _ _ h => h) (Or.inl ⟨by rfl, ?_⟩) ?_; rotate_left; (intro wS hSw; (try dsimp only at hSw); first | (go_simp; done) | (go_simp; with_reducible rfl) | (simp [go_sem, ↓IntWalk.iteOmega, *]; done) | (simp [go_sem, ↓IntWalk.iteOmega, *]; with_reducible rfl)); (intro hG4); clear hG3; (try simp only [Act.put, List.setIfInBounds_toArray, List.set_cons_zero, List.set_cons_succ, List.getElem_toArray, List.getElem_cons_succ, List.getElem_cons_zero])
          refine wpAnyG_any (i := 4) (v := ?_) rfl hG4 (by kernel_rfl) (by kernel_rfl) (by kernel_rfl) rfl (fun _ _ _ h => h) (Or.inl ⟨by rfl, ?_⟩) ?_; rotate_left; (intro wS hSw; (try dsimp only at hSw); first | (go_simp; done) | (go_simp; with_reducible rfl) | (simp [go_sem, ↓IntWalk.iteOmega, *]; done) | (simp [go_sem, ↓IntWalk.iteOmega, *]; with_reducible rfl)); (intro hG5); clear hG4; (try simp only [Act.put, List.setIfInBounds_toArray, List.set_cons_zero, List.set_cons_succ, List.getElem_toArray, List.getElem_cons_succ, List.getElem_cons_zero])
          refine wpAnyG_take (i := 5) (v := ?_) rfl hG5 (by kernel_rfl) (by kernel_rfl) (by kernel_rfl) rfl (by kernel_rfl) (fun _ _ _ h => h) (Or.inl ⟨by rfl, ?_⟩) ?_; rotate_left; (intro wS hSw; (try dsimp only at hSw); first | (go_simp; done) | (go_simp; with_reducible rfl) | (simp [go_sem, ↓IntWalk.iteOmega, *]; done) | (simp [go_sem, ↓IntWalk.iteOmega, *]; with_reducible rfl)); (intro hG6); clear hG5; (try simp only [Act.put, List.setIfInBounds_toArray, List.set_cons_zero, List.set_cons_succ, List.getElem_toArray, List.getElem_cons_succ, List.getElem_cons_zero])
          refine wpAnyG_any (i := 6) (v := ?_) rfl hG6 (by kernel_rfl) (by kernel_rfl) (by kernel_rfl) rfl (fun _ _ _ h => h) (Or.inl ⟨by rfl, ?_⟩) ?_; rotate_left; (intro wS hSw; (try dsimp only at hSw); first | (go_simp; done) | (go_simp; with_reducible rfl) | (simp [go_sem, ↓IntWalk.iteOmega, *]; done) | (simp [go_sem, ↓IntWalk.iteOmega, *]; with_reducible rfl)); (intro hG7); clear hG6; (try simp only [Act.put, List.setIfInBounds_toArray, List.set_cons_zero, List.set_cons_succ, List.getElem_toArray, List.getElem_cons_succ, List.getElem_cons_zero])
          refine wpAnyG_any (i := 7) (v := ?_) rfl hG7 (by kernel_rfl) (by kernel_rfl) (by kernel_rfl) rfl (fun _ _ _ h => h) (Or.inl ⟨by rfl, ?_⟩) ?_; rotate_left; (intro wS hSw; (try dsimp only at hSw); first | (go_simp; done) | (go_simp; with_reducible rfl) | (simp [go_sem, ↓IntWalk.iteOmega, *]; done) | (simp [go_sem, ↓IntWalk.iteOmega, *]; with_reducible rfl)); (intro hG8); clear hG7; (try simp only [Act.put, List.setIfInBounds_toArray, List.set_cons_zero, List.set_cons_succ, List.getElem_toArray, List.getElem_cons_succ, List.getElem_cons_zero])
          refine wpAnyG_take (i := 8) (v := ?_) rfl hG8 (by kernel_rfl) (by kernel_rfl) (by kernel_rfl) rfl (by kernel_rfl) (fun _ _ _ h => h) (Or.inl ⟨by rfl, ?_⟩) ?_; rotate_left; (intro wS hSw; (try dsimp only at hSw); first | (go_simp; done) | (go_simp; with_reducible rfl) | (simp [go_sem, ↓IntWalk.iteOmega, *]; done) | (simp [go_sem, ↓IntWalk.iteOmega, *]; with_reducible rfl)); (intro hG9); clear hG8; (try simp only [Act.put, List.setIfInBounds_toArray, List.set_cons_zero, List.set_cons_succ, List.getElem_toArray, List.getElem_cons_succ, List.getElem_cons_zero])
          refine wpAnyG_ready (rs := [9]) (by kernel_rfl) (by simp) (AllG.cons rfl hG9 (fun K hK => ?_) AllG.nil)
          (go_simp)
          refine hK.out _ _ (Or.inl rfl) (fun hG10 => ?_); clear hK hG9; (try simp only [Act.put, List.setIfInBounds_toArray, List.set_cons_zero, List.set_cons_succ, List.getElem_toArray, List.getElem_cons_succ, List.getElem_cons_zero])
          refine wpAnyG_any (i := 10) (v := ?_) rfl hG10 (by kernel_rfl) (by kernel_rfl) (by kernel_rfl) rfl (fun _ _ _ h => h) (Or.inl ⟨by rfl, ?_⟩) ?_; rotate_left; (intro wS hSw; (try dsimp only at hSw); first | (go_simp; done) | (go_simp; with_reducible rfl) | (simp [go_sem, ↓IntWalk.iteOmega, *]; done) | (simp [go_sem, ↓IntWalk.iteOmega, *]; with_reducible rfl)); (intro hG11); clear hG10; (try simp only [Act.put, List.setIfInBounds_toArray, List.set_cons_zero, List.set_cons_succ, List.getElem_toArray, List.getElem_cons_succ, List.getElem_cons_zero])
          refine wpAnyG_ready (rs := [11]) (by kernel_rfl) (by simp) (AllG.cons rfl hG11 (fun K hK => ?_) AllG.nil)
          (go_simp)
          refine hK.out _ _ (Or.inl rfl) (fun hG12 => ?_); clear hK hG11; (try simp only [Act.put, List.setIfInBounds_toArray, List.set_cons_zero, List.set_cons_succ, List.getElem_toArray, List.getElem_cons_succ, List.getElem_cons_zero])
          refine wpAnyG_done (by kernel_rfl) ?_ _; clear hG12
          go_wp2
          go_roundw
          case rel => exact ⟨j + 1, min y Cx, by omega, by go_num, Lib.hid HM.out.symm, Lib.hid (row_up ((hX.out.set 1 (.int .i64 (min y Cx))).congr (g := cf (some ⟨bs, os, none⟩) O.length c3 (min y Cx)) (fun i hi => by unfold cf; rcases i with _ | _ | i <;> first | rfl | exact absurd hi (by omega))) (Below.refl _ _).drew), Lib.hid (by show _ < (World.setCell _ _ _).heap.size; simpa [World.setCell] using hzr), (hb3r.setCell (p := ⟨w3.heap.size, 1, none⟩) (Nat.le_refl _) _).drew⟩
          case measure => simp [intOf]; omega
        · obtain rfl : j = O.length := by omega
          obtain ⟨xs, ho, hx⟩ := Hrw.out.up hbor
          have hne : IntsNe wr (Value.slice A0 (cuN t s F 1125899906842624 k).length c0).ownBlock S O := ⟨HI3.out.up hb3r, fun a e _ e2 => by
            obtain ⟨_, ho1, _⟩ := Hrw.out
            have h1 := (ho1.lt a.block e2.symm).2
            have h2 := Hl3.out a e
            omega⟩
          have HN := Lib.hid hne
          have Ho := Lib.hid ho
          have Hx := Lib.hid hx
          have hb1r := hb13.trans (hb3r.mono hb13.size)
          have hz1r := hb1r.size
          have Hy := hy
          clear ho hx hne
          go_wp2_with (at_builtin; refine wpList_push rfl _ _ 56 rfl w1.heap.size 62 inf (.agg #[.slice none 0 0, .int .i64 0]) 2 32 undCu hi iz0 iz1 iz2 rfl (by decide) (by decide) _ (cuN t s F 1125899906842624 k).length xs rfl (Ho.out.alloc _) wr.heap.size 62 [.slice S O.length c3, .int .i64 y] rfl rfl (heap_alloc_new _ _) (two_one rfl rfl) (by omega) (by first | omega | (simp; omega)) (B := w1.heap.size) (W := w1) (hb1r.alloc hz1r _) (Nat.le_refl _) ?_; intro v' w8 hown' hgrow hat hbw8; have Hown := Lib.hid hown'; have Hgrow := Lib.hid hgrow; have Hat := Lib.hid hat; clear hown' hgrow hat)
          have Hrow8 := Lib.hid (CuRow.push (Ho.out.alloc (.cells #[.slice S O.length c3, .int .i64 y] 62)) (fun i hi => by obtain ⟨S', c', h1, h2, h3⟩ := Hx.out i hi; exact ⟨S', c', h1, h2.up ((Below.refl _ _).alloc (Nat.le_refl _) _), h3⟩) (u := ⟨O, y⟩) (S := S) (c := c3) (HN.out.up ((Below.refl _ _).alloc (Nat.le_refl _) _)) Hgrow.out Hat.out Hown.out)
          go_wp2
          go_roundw
          case rel => exact ⟨k + 1, by omega, by go_num, Lib.hid (by rw [Hs.out, ← Hy.out]; exact Hrow8.out), hbw8⟩
          case measure => simp [intOf]; omega
    · obtain rfl : k = F.length := by omega
      have HP := Lib.hid ((HG.out (.returned (.tuple #[.slice A0 (cuN t s F 1125899906842624 F.length).length c0, .nilIface])) wr).2 ⟨_, by rw [Hc.out, erV_0], A0, c0, rfl, hA0, HC0.out⟩)
      clear hrow
      go_wp2
      refine bodyPost_ret (v := .tuple #[.slice A0 (cuN t s F 1125899906842624 F.length).length c0, .nilIface]) (by simp [results, Try.results22, go_sem]) rfl ⟨HP.out, hbwr⟩

end Go.Proofs.Ythhfckjddknmeaa

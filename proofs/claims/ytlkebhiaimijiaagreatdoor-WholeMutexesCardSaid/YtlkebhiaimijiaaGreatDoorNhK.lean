/- Texts laid together: VcA, VcB. -/
import Derived.Test.YtlkebhiaimijiaaGreatDoorBel
import Derived.Test.YtlkebhiaimijiaaGreatDoorNgE
import Derived.Test.YtlkebhiaimijiaaGreatDoorNgK
namespace Go.Proofs.YtlkebhiaimijiaaGreatDoor
set_option linter.unusedSimpArgs false
set_option linter.unusedVariables false
section
open Go Go.RowKit
set_option linter.unusedVariables false

/-- A nogood in memory. -/
structure Ngd where
 a : Option Addr
 c : Nat
 l : List Fct
 d : Int
def Ngd.none : Ngd := ⟨.none, 0, [], 0⟩
def ng (ns : List Ngd) (k : Nat) : Ngd := ns.getD k Ngd.none
theorem ng_mem {ns : List Ngd} {k : Nat} (h : k < ns.length) : ng ns k ∈ ns := by unfold ng; simp [List.getD, List.getElem?_eq_getElem h]
theorem mem_ng {ns : List Ngd} {x : Ngd} (h : x ∈ ns) : ∃ k, k < ns.length ∧ x = ng ns k := by
 obtain ⟨k, hk, rfl⟩ := List.mem_iff_getElem.1 h
 exact ⟨k, hk, by unfold ng; simp [List.getD, List.getElem?_eq_getElem hk]⟩
theorem ng_app {ns : List Ngd} {x : Ngd} {k : Nat} (h : k < ns.length) : ng (ns ++ [x]) k = ng ns k := by unfold ng; simp [List.getD, List.getElem?_append_left h]
theorem ng_last {ns : List Ngd} {x : Ngd} : ng (ns ++ [x]) ns.length = x := by unfold ng; simp [List.getD]
/-- A slice of nogoods that is read: it and the facts lie outside bad blocks. -/
def Nls (w : World) (bad : Nat → Prop) (A : Option Addr) (ns : List Ngd) : Prop :=
 ns.length ≤ 1000000 ∧ (0 < ns.length → ∃ b off, A = some ⟨b, off, none⟩ ∧ b < w.heap.size ∧ ¬ bad b ∧ ∀ k, k < ns.length → w.cell? ⟨b, off + k * 2, none⟩ = some (.slice (ng ns k).a (ng ns k).l.length (ng ns k).c) ∧ w.cell? ⟨b, off + k * 2 + 1, none⟩ = some (.int .i64 (ng ns k).d)) ∧ ∀ x ∈ ns, Fac w bad x.a x.l
section
variable {w w' : World} {bad bad' : Nat → Prop} {A : Option Addr} {ns : List Ngd}
theorem Nls.move (h : Nls w bad A ns) (m : Moves w w' bad bad') : Nls w' bad' A ns :=
 ⟨h.1, fun hn => by
  obtain ⟨b, off, e, hb, hx, hc⟩ := h.2.1 hn
  exact ⟨b, off, e, Nat.lt_of_lt_of_le hb m.size, fun h2 => hx (m.bad b hb h2), fun k hk => ⟨(m.cell (p := ⟨b, _, none⟩) hb hx).trans (hc k hk).1, (m.cell (p := ⟨b, _, none⟩) hb hx).trans (hc k hk).2⟩⟩, fun x hx => (h.2.2 x hx).move m⟩
theorem Nls.len (h : Nls w bad A ns) : ns.length ≤ 1000000 := h.1
theorem Nls.at_ (h : Nls w bad A ns) {k : Nat} (hk : k < ns.length) : ∃ b off, A = some ⟨b, off, none⟩ ∧ b < w.heap.size ∧ w.cell? ⟨b, off + k * 2, none⟩ = some (.slice (ng ns k).a (ng ns k).l.length (ng ns k).c) ∧ w.cell? ⟨b, off + k * 2 + 1, none⟩ = some (.int .i64 (ng ns k).d) := by
 obtain ⟨b, off, e, hb, _, hc⟩ := h.2.1 (by omega)
 exact ⟨b, off, e, hb, hc k hk⟩
theorem Nls.fac (h : Nls w bad A ns) {k : Nat} (hk : k < ns.length) : Fac w bad (ng ns k).a (ng ns k).l := h.2.2 _ (ng_mem hk)
theorem Nls.up (h : Nls w bad A ns) (k : Below w.heap.size w w') : Nls w' bad A ns := h.move (Moves.up k)
theorem Nls.sub (h : Nls w bad A ns) (hb : ∀ b, b < w.heap.size → bad' b → bad b) : Nls w bad' A ns := h.move (Moves.mono hb)
theorem Nls.kb (h : Nls w bad A ns) (k : Kb bad w w') : Nls w' bad A ns := h.move k.moves
end

theorem erV_nz {c : Int} (h : c ≠ 0) : erV c = .iface 49 (.int .i64 c) := by unfold erV; rw [if_neg h]
/-- Facts of a certificate: the k-th. -/
def FmOne (p : List Fct) (k : Nat) : Prop := 0 ≤ fv p k ∧ fv p k < 64 ∧ 0 ≤ fx p k ∧ fx p k < 64 ∧ (0 < k → fv p (k - 1) < fv p k)
instance (p : List Fct) (k : Nat) : Decidable (FmOne p k) := by unfold FmOne; exact inferInstance
def fmB (p : List Fct) : Bool := decide (∀ k, k < p.length → FmOne p k)
theorem fm_not {p : List Fct} {k : Nat} (hk : k < p.length) (h : ¬ FmOne p k) : fmB p = false := by
 unfold fmB
 rw [decide_eq_false_iff_not]
 exact fun hh => h (hh k hk)
theorem fm_end {p : List Fct} (h : ∀ j, j < p.length → FmOne p j) : fmB p = true := by
 unfold fmB
 rw [decide_eq_true_eq]
 exact h
/-- Is a distance wrong? -/
def dsB (b d : Int) : Bool := decide (d < 0) || (decide (0 ≤ b) && decide (b ≤ d)) || (decide (b < 0) && !decide (d = 0))
/-- The error of a certificate. -/
def chkN (b : Int) (ns : List Ngd) : Int :=
 if b < -1 ∨ 1099511627776 < b then 1 else if 4096 < ns.length then 5 else if anyB ns.length (fun k => !fmB (ng ns k).l) = true then 2 else if anyB ns.length (fun k => dsB b (ng ns k).d) = true then 1 else 0
def prpN (vars : List Int) (b : Int) (ns : List Ngd) : Int := if chkN b ns = 0 then (if anyB ns.length (fun k => !faB vars (ng ns k).l) = true then 2 else 0) else chkN b ns

set_option maxHeartbeats 4000000 in
theorem formed_any (p : List Fct) (A : Option Addr) (c : Nat) (w : World) (h : FactsAt w w.heap.size A p) :
  Calls Tryz.prog 76 #[.slice A p.length c] w fun e w' => e = .returned (.bool (fmB p)) ∧ Below w.heap.size w w' := by
 have l1 := h.len
 go_enter Tryz.func76, Tryz.ntmps76
 go_wp2
 go_loopw [7] (fun i wr => ∃ k : Nat, k ≤ p.length ∧ i = .int .i64 k ∧ (∀ j, j < k → FmOne p j) ∧ Below w.heap.size w wr) (fun i _ => p.length - (intOf i).toNat)
 case atStart => exact ⟨0, by omega, rfl, fun j hj => absurd hj (by omega), Below.refl _ _⟩
 case round =>
  obtain ⟨k, hk, rfl, hok, hbel⟩ := hrel
  have Hok := Lib.hid hok
  clear hok
  by_cases hlt : k < p.length
  ·obtain ⟨b, o, rfl, hb, hc⟩ := h.at_ hlt
   have hbz := hbel.size
   have d1 := (hbel.cell (p := ⟨b, o + k * 2, none⟩) hb).trans (hc k hlt).1
   have d2 := (hbel.cell (p := ⟨b, o + k * 2 + 1, none⟩) hb).trans (hc k hlt).2
   have g2 : b < wr.heap.size := by omega
   by_cases q0 : fv p k < 0
   ·have Hf := Lib.hid (fm_not hlt fun h => by have := h.1; omega)
    have e0 : decide (fv p k < 0) = true := by simpa using q0
    clear hc
    go_wp2
    go_quiet (fail)
    go_wp2
    go_ret
    refine ⟨bool_ret Hf.out.symm, ?_⟩
    exact bel
   have e0 : decide (fv p k < 0) = false := by simpa using q0
   by_cases q3 : 64 ≤ fv p k
   ·have Hf := Lib.hid (fm_not hlt fun h => by have := h.2.1; omega)
    have e3 : decide (64 ≤ fv p k) = true := by simpa using q3
    clear hc
    go_wp2
    go_quiet (fail)
    go_wp2
    go_ret
    refine ⟨bool_ret Hf.out.symm, ?_⟩
    exact bel
   have e3 : decide (64 ≤ fv p k) = false := by simpa using q3
   by_cases q1 : fx p k < 0
   ·have Hf := Lib.hid (fm_not hlt fun h => by have := h.2.2.1; omega)
    have e1 : decide (fx p k < 0) = true := by simpa using q1
    clear hc
    go_wp2
    go_quiet (fail)
    go_wp2
    go_ret
    refine ⟨bool_ret Hf.out.symm, ?_⟩
    exact bel
   have e1 : decide (fx p k < 0) = false := by simpa using q1
   by_cases q4 : 64 ≤ fx p k
   ·have Hf := Lib.hid (fm_not hlt fun h => by have := h.2.2.2.1; omega)
    have e4 : decide (64 ≤ fx p k) = true := by simpa using q4
    clear hc
    go_wp2
    go_quiet (fail)
    go_wp2
    go_ret
    refine ⟨bool_ret Hf.out.symm, ?_⟩
    exact bel
   have e4 : decide (64 ≤ fx p k) = false := by simpa using q4
   by_cases k0 : k = 0
   ·subst k0
    clear hc
    simp only [Nat.zero_mul, Nat.add_zero] at d1 d2
    go_wp2
    go_quiet (fail)
    go_wp2
    go_roundw
    case rel => exact ⟨1, by omega, by go_num, (fun j (hj : j < 1) => (by have h0 : j = 0 := (by omega); rw [h0]; exact ⟨by omega, by omega, by omega, by omega, fun h => absurd h (by omega)⟩)), by exact bel⟩
    case measure => simp [intOf]; omega
   have d3 := (hbel.cell (p := ⟨b, o + (k - 1) * 2, none⟩) hb).trans (hc (k - 1) (by omega)).1
   have hk1 : (k : Int) - 1 = ((k - 1 : Nat) : Int) := by omega
   have hkp : decide (0 < k) = true := by simpa using (show 0 < k by omega)
   clear hc
   obtain ⟨m, hm⟩ : ∃ m, m = k - 1 := ⟨_, rfl⟩
   rw [← hm] at d3 hk1
   have hml : m < p.length := by omega
   by_cases q2 : fv p k ≤ fv p m
   ·have Hf := Lib.hid (fm_not hlt fun h => by have := h.2.2.2.2 (by omega); rw [← hm] at this; omega)
    have e2 : decide (fv p k ≤ fv p m) = true := by simpa using q2
    have HM := Lib.hid hm
    clear hm
    go_wp2
    go_quiet (fail)
    go_wp2
    go_ret
    refine ⟨bool_ret Hf.out.symm, ?_⟩
    exact bel
   ·have e2 : decide (fv p k ≤ fv p m) = false := by simpa using q2
    have HM := Lib.hid hm
    clear hm
    go_wp2
    go_quiet (fail)
    go_wp2
    go_roundw
    case rel => exact ⟨k + 1, by omega, by go_num, fun j hj => by rcases Nat.lt_succ_iff_lt_or_eq.1 hj with h1 | rfl; exact Hok.out j h1; exact ⟨by omega, by omega, by omega, by omega, fun _ => by rw [← HM.out]; omega⟩, by exact bel⟩
    case measure => simp [intOf]; omega
  ·have Ht := Lib.hid (fm_end fun j hj => Hok.out j (by omega))
   go_wp2
   go_ret
   refine ⟨bool_ret Ht.out.symm, ?_⟩
   exact bel

set_option maxRecDepth 20000 in
set_option maxHeartbeats 8000000 in
theorem ccheck_any (b : Int) (ns : List Ngd) (A : Option Addr) (c : Nat) (w : World) (h : Nls w (fun _ => False) A ns) :
  Calls Tryz.prog 40 #[.agg #[.int .i64 b, .slice A ns.length c]] w fun e w' => e = .returned (erV (chkN b ns)) ∧ Below w.heap.size w w' := by
 have hln := h.len
 obtain ⟨W0, hW0⟩ : ∃ W0, W0 = w.alloc (.cells #[.int .i64 b, .slice A ns.length c] 41) := ⟨_, rfl⟩
 have hz0 : W0.heap.size = w.heap.size + 1 := by rw [hW0]; simp
 have HB0 := Lib.hid (show Below w.heap.size w W0 by rw [hW0]; exact (Below.refl _ _).alloc (Nat.le_refl _) _)
 have HX0 := Lib.hid (show BxI W0 w.heap.size 41 #[.int .i64 b, .slice A ns.length c] by rw [hW0]; exact BxI.new _ _ _)
 have x0 := HX0.out.cell 0 (.int .i64 b) rfl
 have x1 := HX0.out.cell 1 (.slice A ns.length c) rfl
 have H := Lib.hid h
 clear h
 by_cases q0 : b < -1
 ·have Hc := Lib.hid (show chkN b ns = 1 by unfold chkN; rw [if_pos (.inl q0)])
  have e0 : decide (b < -1) = true := decide_eq_true q0
  go_enter Tryz.func40, Tryz.ntmps40
  go_wp2
  refine bodyPost_ret (v := erV 1) (by simp [results, Tryz.results40, go_sem, erV]) rfl ⟨by rw [Hc.out], ?_⟩
  exact bel
 have e0 : decide (b < -1) = false := decide_eq_false q0
 by_cases q1 : 1099511627776 < b
 ·have Hc := Lib.hid (show chkN b ns = 1 by unfold chkN; rw [if_pos (.inr q1)])
  have e1 : decide (1099511627776 < b) = true := decide_eq_true q1
  go_enter Tryz.func40, Tryz.ntmps40
  go_wp2
  refine bodyPost_ret (v := erV 1) (by simp [results, Tryz.results40, go_sem, erV]) rfl ⟨by rw [Hc.out], ?_⟩
  exact bel
 have e1 : decide (1099511627776 < b) = false := decide_eq_false q1
 by_cases q2 : 4096 < ns.length
 ·have Hc := Lib.hid (show chkN b ns = 5 by unfold chkN; rw [if_neg (by omega), if_pos q2])
  have e2 : decide ((4096 : Int) < ns.length) = true := decide_eq_true (by omega)
  go_enter Tryz.func40, Tryz.ntmps40
  go_wp2
  refine bodyPost_ret (v := erV 5) (by simp [results, Tryz.results40, go_sem, erV]) rfl ⟨by rw [Hc.out], ?_⟩
  exact bel
 have e2 : decide ((4096 : Int) < ns.length) = false := decide_eq_false (by omega)
 have HC := Lib.hid (show chkN b ns = if anyB ns.length (fun k => !fmB (ng ns k).l) = true then 2 else if anyB ns.length (fun k => dsB b (ng ns k).d) = true then 1 else 0 by unfold chkN; rw [if_neg (by omega), if_neg q2])
 have hln2 : ns.length ≤ 4096 := by omega
 clear q0 q1 q2
 go_enter Tryz.func40, Tryz.ntmps40
 go_wp2_with fail
 rw [← hW0]
 have HW0 := Lib.hid hW0
 clear hW0
 go_loopw [24] (fun v24 wr => ∃ k : Nat, v24 = .int .i64 k ∧ k ≤ ns.length ∧ Hid (∀ j, j < k → fmB (ng ns j).l = true) ∧ Hid (Below W0.heap.size W0 wr)) (fun v24 _ => ns.length - (intOf v24).toNat)
 case atStart => exact ⟨0, rfl, by omega, Lib.hid (fun j hj => absurd hj (by omega)), Lib.hid (Below.refl _ _)⟩
 case round =>
  clear x0 x1
  obtain ⟨k, rfl, hk, HK, HE⟩ := hrel
  obtain ⟨wt, rfl⟩ : ∃ wt : World, wt = wr := ⟨_, rfl⟩
  have x0 := (HX0.out.up HE.out).cell 0 (.int .i64 b) rfl
  have x1 := (HX0.out.up HE.out).cell 1 (.slice A ns.length c) rfl
  have hX := (HX0.out.up HE.out).lt
  have hzt := HE.out.size
  by_cases hlt : k < ns.length
  ·obtain ⟨nb, no, hA, hnb, n1, n2⟩ := (H.out.up (HB0.out.trans (HE.out.mono HB0.out.size))).at_ hlt
   have hfac := ((H.out.up (HB0.out.trans (HE.out.mono HB0.out.size))).fac hlt)
   obtain ⟨n, hn⟩ : ∃ n, n = ng ns k := ⟨_, rfl⟩
   rw [← hn] at n1 n2 hfac
   have HN := Lib.hid hn
   have HFC := Lib.hid hfac
   have hfl : n.l.length ≤ 140737488355328 := hfac.1
   obtain ⟨W1, hW1⟩ : ∃ W1, W1 = wt.alloc (.cells #[.slice n.a n.l.length n.c, .int .i64 n.d] 97) := ⟨_, rfl⟩
   have HB1 := Lib.hid (show Below wt.heap.size wt W1 by rw [hW1]; exact (Below.refl _ _).alloc (Nat.le_refl _) _)
   have KF := Lib.hid (formed_any n.l n.a n.c W1 (hfac.up HB1.out).at_)
   rw [hA]
   clear hn hfac
   go_wp2_with fail
   rw [← hW1]
   have HW1 := Lib.hid hW1
   have hz1 := HB1.out.size
   clear hW1
   refine KF.out.mono ?_
   rintro e w2 ⟨rfl, hb2⟩
   have HE2 := Lib.hid (show Below W0.heap.size W0 w2 from (HE.out.trans (HB1.out.mono hzt)).trans (hb2.mono (Nat.le_trans hzt HB1.out.size)))
   clear hb2 KF
   cases e3 : fmB n.l
   ·have Hc := Lib.hid (show chkN b ns = 2 by rw [HC.out, if_pos (anyB_true.2 ⟨k, hlt, by rw [← HN.out, e3]; rfl⟩)])
    go_wp2
    refine bodyPost_ret (v := erV 2) (by simp [results, Tryz.results40, go_sem, erV]) rfl ⟨by rw [Hc.out], HB0.out.trans (HE2.out.mono HB0.out.size)⟩
   ·have HK2 := Lib.hid (show ∀ j, j < k + 1 → fmB (ng ns j).l = true from fun j hj => by
     rcases Nat.lt_succ_iff_lt_or_eq.1 hj with h1 | rfl
     ·exact HK.out j h1
     ·rw [← HN.out]; exact e3)
    go_wp2
    go_roundw
    case rel => exact ⟨k + 1, by go_num, by omega, HK2, HE2⟩
    case measure => simp [intOf]; omega
  ·have HC2 := Lib.hid (show chkN b ns = if anyB ns.length (fun k => dsB b (ng ns k).d) = true then 1 else 0 by
    rw [HC.out, if_neg]
    rw [Bool.not_eq_true, anyB_false]
    intro j hj
    rw [HK.out j (by omega)]; rfl)
   clear HC
   go_wp2_with fail
   go_loopw [37] (fun v37 wr => ∃ k : Nat, v37 = .int .i64 k ∧ k ≤ ns.length ∧ Hid (∀ j, j < k → dsB b (ng ns j).d = false) ∧ Hid (Below W0.heap.size W0 wr)) (fun v37 _ => ns.length - (intOf v37).toNat)
   case atStart => exact ⟨0, rfl, by omega, Lib.hid (fun j hj => absurd hj (by omega)), HE⟩
   case round =>
    clear x0 x1 HE hX hzt HK
    obtain ⟨k, rfl, hk, HK, HE⟩ := hrel
    obtain ⟨wu, rfl⟩ : ∃ wu : World, wu = wr := ⟨_, rfl⟩
    have x0 := (HX0.out.up HE.out).cell 0 (.int .i64 b) rfl
    have x1 := (HX0.out.up HE.out).cell 1 (.slice A ns.length c) rfl
    have hX := (HX0.out.up HE.out).lt
    have hzt := HE.out.size
    by_cases hlt2 : k < ns.length
    ·obtain ⟨nb, no, hA, hnb, n1, n2⟩ := (H.out.up (HB0.out.trans (HE.out.mono HB0.out.size))).at_ hlt2
     obtain ⟨n, hn⟩ : ∃ n, n = ng ns k := ⟨_, rfl⟩
     rw [← hn] at n1 n2
     have HN := Lib.hid hn
     rw [hA]
     clear hn
     have HW := Lib.hid (show Below w.heap.size w (wu.alloc (.cells #[.slice n.a n.l.length n.c, .int .i64 n.d] 97)) from (HB0.out.trans (HE.out.mono HB0.out.size)).alloc (by omega) _)
     have HE2 := Lib.hid (show Below W0.heap.size W0 (wu.alloc (.cells #[.slice n.a n.l.length n.c, .int .i64 n.d] 97)) from HE.out.alloc hzt _)
     cases e3 : dsB b n.d
     ·have HK2 := Lib.hid (show ∀ j, j < k + 1 → dsB b (ng ns j).d = false from fun j hj => by
       rcases Nat.lt_succ_iff_lt_or_eq.1 hj with h1 | rfl
       ·exact HK.out j h1
       ·rw [← HN.out]; exact e3)
      unfold dsB at e3
      simp only [Bool.or_eq_false_iff, Bool.and_eq_false_iff, decide_eq_false_iff_not, Bool.not_eq_false', decide_eq_true_eq] at e3
      obtain ⟨⟨f0, f1⟩, f2⟩ := e3
      have g0 : decide (n.d < 0) = false := decide_eq_false f0
      rcases Int.lt_or_le b 0 with hb0 | hb0
      ·have f3 : n.d = 0 := by omega
       have g1 : decide (0 ≤ b) = false := decide_eq_false (by omega)
       have g2 : decide (b < 0) = true := decide_eq_true hb0
       have g3 : (n.d != 0) = false := by rw [f3]; rfl
       clear f0 f1 f2 f3
       go_wp2
       go_roundw
       case rel => exact ⟨k + 1, by go_num, by omega, HK2, HE2⟩
       case measure => simp [intOf]; omega
      ·have g1 : decide (0 ≤ b) = true := decide_eq_true hb0
       have g2 : decide (b ≤ n.d) = false := decide_eq_false (by omega)
       have g3 : decide (b < 0) = false := decide_eq_false (by omega)
       clear f0 f1 f2
       go_wp2
       go_roundw
       case rel => exact ⟨k + 1, by go_num, by omega, HK2, HE2⟩
       case measure => simp [intOf]; omega
     ·have Hc := Lib.hid (show chkN b ns = 1 by rw [HC2.out, if_pos (anyB_true.2 ⟨k, hlt2, by rw [← HN.out, e3]⟩)])
      unfold dsB at e3
      by_cases f0 : n.d < 0
      ·have g0 : decide (n.d < 0) = true := decide_eq_true f0
       clear e3
       go_wp2
       refine bodyPost_ret (v := erV 1) (by simp [results, Tryz.results40, go_sem, erV]) rfl ⟨by rw [Hc.out], HW.out⟩
      ·have g0 : decide (n.d < 0) = false := decide_eq_false f0
       rw [g0] at e3
       rcases Int.lt_or_le b 0 with hb0 | hb0
       ·have g1 : decide (0 ≤ b) = false := decide_eq_false (by omega)
        have g2 : decide (b < 0) = true := decide_eq_true hb0
        rw [g1, g2] at e3
        have f3 : n.d ≠ 0 := by simpa using e3
        have g3 : (n.d != 0) = true := by simpa using f3
        clear e3
        go_wp2
        refine bodyPost_ret (v := erV 1) (by simp [results, Tryz.results40, go_sem, erV]) rfl ⟨by rw [Hc.out], HW.out⟩
       ·have g1 : decide (0 ≤ b) = true := decide_eq_true hb0
        have g4 : decide (b < 0) = false := decide_eq_false (by omega)
        rw [g1, g4] at e3
        have f3 : b ≤ n.d := by simpa using e3
        have g2 : decide (b ≤ n.d) = true := decide_eq_true f3
        clear e3
        go_wp2
        refine bodyPost_ret (v := erV 1) (by simp [results, Tryz.results40, go_sem, erV]) rfl ⟨by rw [Hc.out], HW.out⟩
    ·have Hc := Lib.hid (show chkN b ns = 0 by
      rw [HC2.out, if_neg]
      rw [Bool.not_eq_true, anyB_false]
      intro j hj
      exact HK.out j (by omega))
     go_wp2
     refine bodyPost_ret (v := erV 0) (by simp [results, Tryz.results40, go_sem, erV]) rfl ⟨by rw [Hc.out], HB0.out.trans (HE.out.mono HB0.out.size)⟩

set_option maxRecDepth 20000 in
set_option maxHeartbeats 8000000 in
theorem cproper_any (vars : List Int) (b : Int) (ns : List Ngd) (av A : Option Addr) (cv c : Nat) (w : World) (h1 : IntsAt w w.heap.size av vars) (h : Nls w (fun _ => False) A ns) :
  Calls Tryz.prog 77 #[.slice av vars.length cv, .agg #[.int .i64 b, .slice A ns.length c]] w fun e w' => e = .returned (erV (prpN vars b ns)) ∧ Below w.heap.size w w' := by
 have hln := h.len
 obtain ⟨W0, hW0⟩ : ∃ W0, W0 = w.alloc (.cells #[.int .i64 b, .slice A ns.length c] 41) := ⟨_, rfl⟩
 have hz0 : W0.heap.size = w.heap.size + 1 := by rw [hW0]; simp
 have HB0 := Lib.hid (show Below w.heap.size w W0 by rw [hW0]; exact (Below.refl _ _).alloc (Nat.le_refl _) _)
 have HX0 := Lib.hid (show BxI W0 w.heap.size 41 #[.int .i64 b, .slice A ns.length c] by rw [hW0]; exact BxI.new _ _ _)
 have x0 := HX0.out.cell 0 (.int .i64 b) rfl
 have x1 := HX0.out.cell 1 (.slice A ns.length c) rfl
 have H := Lib.hid h
 have HV := Lib.hid h1
 have K1 := Lib.hid (ccheck_any b ns A c W0 (h.up HB0.out))
 clear h h1
 go_enter Tryz.func77, Tryz.ntmps77
 go_wp2_with fail
 rw [← hW0]
 have HW0 := Lib.hid hW0
 clear hW0
 refine K1.out.mono ?_
 rintro e w1 ⟨rfl, hb1⟩
 have HB1 := Lib.hid hb1
 have HBw := Lib.hid (show Below w.heap.size w w1 from HB0.out.trans (hb1.mono HB0.out.size))
 clear x0 x1
 have x0 := (HX0.out.up hb1).cell 0 (.int .i64 b) rfl
 have x1 := (HX0.out.up hb1).cell 1 (.slice A ns.length c) rfl
 have hX := (HX0.out.up hb1).lt
 clear hb1 K1
 by_cases e0 : chkN b ns = 0
 ·have HP := Lib.hid (show prpN vars b ns = if anyB ns.length (fun k => !faB vars (ng ns k).l) = true then 2 else 0 by unfold prpN; rw [if_pos e0])
  rw [e0, erV_0]
  clear e0
  go_wp2_with fail
  go_loopw [16] (fun v16 wr => ∃ k : Nat, v16 = .int .i64 k ∧ k ≤ ns.length ∧ Hid (∀ j, j < k → faB vars (ng ns j).l = true) ∧ Hid (Below W0.heap.size W0 wr)) (fun v16 _ => ns.length - (intOf v16).toNat)
  case atStart => exact ⟨0, rfl, by omega, Lib.hid (fun j hj => absurd hj (by omega)), HB1⟩
  case round =>
   clear x0 x1 hX
   obtain ⟨k, rfl, hk, HK, HE⟩ := hrel
   obtain ⟨wt, rfl⟩ : ∃ wt : World, wt = wr := ⟨_, rfl⟩
   have x0 := (HX0.out.up HE.out).cell 0 (.int .i64 b) rfl
   have x1 := (HX0.out.up HE.out).cell 1 (.slice A ns.length c) rfl
   have hX := (HX0.out.up HE.out).lt
   have hzt := HE.out.size
   by_cases hlt : k < ns.length
   ·obtain ⟨nb, no, hA, hnb, n1, n2⟩ := (H.out.up (HB0.out.trans (HE.out.mono HB0.out.size))).at_ hlt
    have hfac := ((H.out.up (HB0.out.trans (HE.out.mono HB0.out.size))).fac hlt)
    obtain ⟨n, hn⟩ : ∃ n, n = ng ns k := ⟨_, rfl⟩
    rw [← hn] at n1 n2 hfac
    have HN := Lib.hid hn
    have hfl : n.l.length ≤ 140737488355328 := hfac.1
    obtain ⟨W1, hW1⟩ : ∃ W1, W1 = wt.alloc (.cells #[.slice n.a n.l.length n.c, .int .i64 n.d] 97) := ⟨_, rfl⟩
    have HB1 := Lib.hid (show Below wt.heap.size wt W1 by rw [hW1]; exact (Below.refl _ _).alloc (Nat.le_refl _) _)
    have KF := Lib.hid (facts_any vars n.l av n.a cv n.c W1 ((HV.out.up (HB0.out.trans (HE.out.mono HB0.out.size))).up HB1.out) (hfac.up HB1.out).at_)
    rw [hA]
    clear hn hfac
    go_wp2_with fail
    rw [← hW1]
    have HW1 := Lib.hid hW1
    have hz1 := HB1.out.size
    clear hW1
    refine KF.out.mono ?_
    rintro e w2 ⟨rfl, hb2⟩
    have HE2 := Lib.hid (show Below W0.heap.size W0 w2 from (HE.out.trans (HB1.out.mono hzt)).trans (hb2.mono (Nat.le_trans hzt HB1.out.size)))
    clear hb2 KF
    cases e3 : faB vars n.l
    ·have Hc := Lib.hid (show prpN vars b ns = 2 by rw [HP.out, if_pos (anyB_true.2 ⟨k, hlt, by rw [← HN.out, e3]; rfl⟩)])
     go_wp2
     refine bodyPost_ret (v := erV 2) (by simp [results, Tryz.results77, go_sem, erV]) rfl ⟨by rw [Hc.out], HB0.out.trans (HE2.out.mono HB0.out.size)⟩
    ·have HK2 := Lib.hid (show ∀ j, j < k + 1 → faB vars (ng ns j).l = true from fun j hj => by
      rcases Nat.lt_succ_iff_lt_or_eq.1 hj with h1 | rfl
      ·exact HK.out j h1
      ·rw [← HN.out]; exact e3)
     go_wp2
     go_roundw
     case rel => exact ⟨k + 1, by go_num, by omega, HK2, HE2⟩
     case measure => simp [intOf]; omega
   ·have Hc := Lib.hid (show prpN vars b ns = 0 by
     rw [HP.out, if_neg]
     rw [Bool.not_eq_true, anyB_false]
     intro j hj
     rw [HK.out j (by omega)]; rfl)
    go_wp2
    refine bodyPost_ret (v := erV 0) (by simp [results, Tryz.results77, go_sem, erV]) rfl ⟨by rw [Hc.out], HB0.out.trans (HE.out.mono HB0.out.size)⟩
 ·have HP := Lib.hid (show prpN vars b ns = chkN b ns by unfold prpN; rw [if_neg e0])
  obtain ⟨ec, hec⟩ : ∃ ec, ec = chkN b ns := ⟨_, rfl⟩
  rw [← hec] at HP e0 ⊢
  rw [erV_nz e0]
  go_wp2
  refine bodyPost_ret (v := erV ec) (by simp [results, Tryz.results77, go_sem, erV_nz e0, hec.symm]) rfl ⟨by rw [HP.out], HBw.out⟩
end

section
open Go Go.RowKit
set_option linter.unusedVariables false

/-- The checker's box: the task, the certificate, the steps left. -/
def CkB (w : World) (X : Nat) (t : Tsk) (p : Lies) (b : Int) (A : Option Addr) (n c : Nat) (s : Int) : Prop :=
 BxI w X 156 #[.slice p.av t.vars.length p.cv, .slice p.ai t.init.length p.ci, .slice p.ag t.goal.length p.cg, .slice p.ao t.ops.length p.co, .int .i64 b, .slice A n c, .int .i64 s]
/-- The nogoods of at most a distance among the first i. -/
def cntL (ns : List Ngd) (d : Int) (i : Nat) : List Hd := ((ns.take i).filter fun n => decide (n.d ≤ d)).map fun n => ⟨n.a, n.c, n.l⟩
theorem take_ng {ns : List Ngd} {i : Nat} (h : i < ns.length) : ns.take (i + 1) = ns.take i ++ [ng ns i] := by
 have e : ns[i] = ng ns i := by unfold ng; simp [List.getD, List.getElem?_eq_getElem h]
 rw [← List.take_append_getElem h, e]
theorem cntL_yes {ns : List Ngd} {d : Int} {i : Nat} (hi : i < ns.length) (h : (ng ns i).d ≤ d) : cntL ns d (i + 1) = cntL ns d i ++ [⟨(ng ns i).a, (ng ns i).c, (ng ns i).l⟩] := by
 unfold cntL; rw [take_ng hi, List.filter_append, List.map_append]; simp [h]
theorem cntL_no {ns : List Ngd} {d : Int} {i : Nat} (hi : i < ns.length) (h : ¬ (ng ns i).d ≤ d) : cntL ns d (i + 1) = cntL ns d i := by
 unfold cntL; rw [take_ng hi, List.filter_append, List.map_append]; simp [h]
theorem cntL_len (ns : List Ngd) (d : Int) (i : Nat) : (cntL ns d i).length ≤ i := by
 unfold cntL
 rw [List.length_map]
 exact Nat.le_trans (List.length_filter_le _ _) (by rw [List.length_take]; omega)
theorem cntL_mem {ns : List Ngd} {d : Int} {z : List Fct} : z ∈ hls (cntL ns d ns.length) ↔ ∃ n ∈ ns, n.d ≤ d ∧ n.l = z := by
 unfold hls cntL
 rw [List.take_length]
 simp only [List.mem_map, List.mem_filter, decide_eq_true_eq]
 constructor
 ·rintro ⟨h, ⟨n, ⟨h1, h2⟩, rfl⟩, rfl⟩; exact ⟨n, h1, h2, rfl⟩
 ·rintro ⟨n, h1, h2, rfl⟩; exact ⟨_, ⟨n, ⟨h1, h2⟩, rfl⟩, rfl⟩
theorem cntL_in {ns : List Ngd} {d : Int} {i : Nat} {h : Hd} (hh : h ∈ cntL ns d i) : ∃ n ∈ ns, h = ⟨n.a, n.c, n.l⟩ := by
 unfold cntL at hh
 simp only [List.mem_map, List.mem_filter] at hh
 obtain ⟨n, ⟨h1, _⟩, rfl⟩ := hh
 exact ⟨n, List.mem_of_mem_take h1, rfl⟩

set_option maxRecDepth 20000 in
set_option maxHeartbeats 8000000 in
theorem counting_any (X : Nat) (t : Tsk) (p : Lies) (b : Int) (ns : List Ngd) (A : Option Addr) (c : Nat) (s d : Int) (w : World) (hx : CkB w X t p b A ns.length c s) (h : Nls w (fun _ => False) A ns) (hl : ns.length ≤ 4096) :
  Calls Tryz.prog 108 #[.pointer (some ⟨X, 0, none⟩), .int .i64 d] w fun e w' => (∃ (L : Option Addr) (lc : Nat), e = .returned (.slice L (cntL ns d ns.length).length lc) ∧ Rls w' (fun _ => False) L (cntL ns d ns.length)) ∧ Below w.heap.size w w' := by
 obtain ⟨inf, hinf, iz0, iz1, iz2⟩ := info_parts ninfL
 have HX := Lib.hid hx
 have H := Lib.hid h
 have hXlt := hx.lt
 have x5 := hx.cell 5 (.slice A ns.length c) rfl
 clear hx h
 go_enter Tryz.func108, Tryz.ntmps108
 go_wp2_with fail
 go_loopw [5, 14] (fun v5 v14 wr => ∃ (k : Nat) (OA : Option Addr) (OC : Nat), v5 = .slice OA (cntL ns d k).length OC ∧ v14 = .int .i64 k ∧ k ≤ ns.length ∧ Hid (wr.ownsRow w.heap.size 23 1 (.slice OA (cntL ns d k).length OC) (cntL ns d k).length ((cntL ns d k).map Hd.v)) ∧ Hid (Below w.heap.size w wr)) (fun _ v14 _ => ns.length - (intOf v14).toNat)
 case atStart => exact ⟨0, none, 0, rfl, rfl, by omega, Lib.hid (World.ownsRow_nil _ _ _ _), Lib.hid (Below.refl _ _)⟩
 case round =>
  clear x5
  obtain ⟨k, OA, OC, rfl, rfl, hk, HO, HE⟩ := hrel
  obtain ⟨wt, rfl⟩ : ∃ wt : World, wt = wr := ⟨_, rfl⟩
  have hzt := HE.out.size
  by_cases hlt : k < ns.length
  ·obtain ⟨nb, no, hA, hnb, n1, n2⟩ := (H.out.up HE.out).at_ hlt
   obtain ⟨n, hn⟩ : ∃ n, n = ng ns k := ⟨_, rfl⟩
   rw [← hn] at n1 n2
   have hY := cntL_yes (d := d) hlt
   have hN := cntL_no (d := d) hlt
   rw [← hn] at hY hN
   obtain ⟨m, hm⟩ : ∃ m, m = (cntL ns d k).length := ⟨_, rfl⟩
   have hmk : m ≤ k := by rw [hm]; exact cntL_len _ _ _
   have HO1 := Lib.hid HO.out
   rw [← hm] at HO1
   have HM := Lib.hid hm
   rw [← hm]
   have HY := Lib.hid hY
   have HNN := Lib.hid hN
   rw [hA]
   clear hn hY hN hm
   by_cases hd : n.d ≤ d
   ·go_wp2_with (at_builtin; refine wpList_append_src (by rfl) _ _ 77 (by rfl) w.heap.size 23 inf (.slice none 0 0) 1 24 nundL hinf iz0 iz1 iz2 rfl (by decide) (.slice OA m OC) m ((cntL ns d k).map Hd.v) (by rfl) (by exact (HO1.out.alloc _).alloc _) (some ⟨wt.heap.size + 1, 0, none⟩) 1 1 [.slice n.a n.l.length n.c] (by rfl) (src_of (BxI.new2 wt _ 23 _) rfl (by intro u hu; simp at hu; subst hu; rfl)) (by unfold maxLen; omega) (by omega) (by first | omega | (simp; done) | (simp; omega)) ?_; intro v4 w4 hown4 hgrow4 hat4; obtain ⟨A4, c4, rfl⟩ := own_shape hown4; have HO4 := Lib.hid hown4; have HG4 := Lib.hid hgrow4; have HA4 := Lib.hid hat4; clear hown4 hgrow4 hat4)
    have HE4 := Lib.hid (show Below w.heap.size w w4 from ((HE.out.alloc hzt _).alloc (by simp; omega) _).grown HG4.out (by simp; omega) (fun b hb => (HO1.out.lt b hb).1))
    have HL := Lib.hid (show (cntL ns d (k + 1)).length = m + 1 by rw [HY.out hd, List.length_append, ← HM.out]; rfl)
    go_roundw
    case rel => exact ⟨k + 1, A4, c4, by rw [HL.out], by go_num, by omega, Lib.hid (by rw [HL.out, HY.out hd, List.map_append]; exact HO4.out), HE4⟩
    case measure => simp [intOf]; omega
   ·go_wp2
    go_roundw
    case rel => exact ⟨k + 1, OA, OC, by rw [HNN.out hd, HM.out], by go_num, by omega, Lib.hid (by rw [HNN.out hd]; exact HO.out.alloc _), Lib.hid (HE.out.alloc hzt _)⟩
    case measure => simp [intOf]; omega
  ·obtain rfl : k = ns.length := by omega
   have HR := Lib.hid (show Rls wt (fun _ => False) OA (cntL ns d ns.length) from Orl.rls ⟨HO.out, fun x hx => by
    obtain ⟨n, hn, rfl⟩ := cntL_in hx
    exact (H.out.up HE.out).2.2 n hn⟩ (by have := cntL_len ns d ns.length; omega) (fun _ _ _ h => h))
   go_wp2
   refine bodyPost_ret (v := .slice OA (cntL ns d ns.length).length OC) (by simp [results, Tryz.results108, go_sem]) rfl ⟨⟨OA, OC, rfl, HR.out⟩, HE.out⟩

/-- What covered leaves. -/
def CkRet (t : Tsk) (p : Lies) (bd : Int) (A : Option Addr) (n c : Nat) (X : Nat) (z : List Fct) (hs : List Hd) (s : Int) (w : World) (e : Ending) (w' : World) : Prop :=
 (∃ (b : Bool) (u ec s' : Int), e = .returned (.tuple #[.bool b, erV ec]) ∧ CovOut t.vars z hs s b u ec ∧ CkB w' X t p bd A n c s' ∧ ((ec = 0 ∧ s' = s - u) ∨ (ec ≠ 0 ∧ s' = s ∧ b = false))) ∧ Kb (fun b => b = X) w w'

set_option maxRecDepth 20000 in
set_option maxHeartbeats 8000000 in
theorem ckcov_any (X : Nat) (t : Tsk) (p : Lies) (b : Int) (ns : List Ngd) (A Z : Option Addr) (c zc : Nat) (s d : Int) (z : List Fct) (w : World) (hs0 : 0 ≤ s) (hs1 : s ≤ 1048576) (hv : t.vars.length ≤ 1000) (hdm : ∀ k, k < t.vars.length → nth t.vars k ≤ 1000)
  (hx : CkB w X t p b A ns.length c s) (h : Nls w (fun b => b = X) A ns) (hl : ns.length ≤ 4096) (h1 : IntsAt w X p.av t.vars) (h2 : Fac w (fun b => b = X) Z z) :
  Calls Tryz.prog 78 #[.pointer (some ⟨X, 0, none⟩), .slice Z z.length zc, .int .i64 d] w fun e w' => CkRet t p b A ns.length c X z (cntL ns d ns.length) s w e w' := by
 have HX := Lib.hid hx
 have H := Lib.hid h
 have H1 := Lib.hid h1
 have H2 := Lib.hid h2
 have hXlt := hx.lt
 have KC := Lib.hid (fun W (k : Below w.heap.size w W) => counting_any X t p b ns A c s d W (hx.up k) ((h.up k).sub fun _ _ h => h.elim) hl)
 have KV := Lib.hid (fun W (k : Below w.heap.size w W) L lc (hr : Rls W (fun _ => False) L (cntL ns d ns.length)) => covered_any t.vars z (cntL ns d ns.length) p.av Z L p.cv zc lc s W hs0 hs1 hv hdm (h1.keep (fun q hq => k.cell (Nat.lt_trans hq hXlt)) (Nat.le_trans (Nat.le_of_lt hXlt) k.size)) (h2.up k).at_ hr)
 have HS1 := Lib.hid (show ∀ w' : World, Below w.heap.size w w' → w'.cell? ⟨X, 0, none⟩ = some (.slice p.av t.vars.length p.cv) ∧ w'.cell? ⟨X, 6, none⟩ = some (.int .i64 s) from fun w' hb' => ⟨(hx.up hb').cell 0 _ rfl, (hx.up hb').cell 6 _ rfl⟩)
 obtain ⟨L0, hL0⟩ : ∃ L0, L0 = cntL ns d ns.length := ⟨_, rfl⟩
 rw [← hL0] at KC KV ⊢
 have HL0 := Lib.hid hL0
 clear hx h h1 h2 hL0
 go_enter Tryz.func78, Tryz.ntmps78
 go_wp2_with fail
 refine wp_region_G 13 (fun w' => w'.cell? ⟨X, 0, none⟩ = some (.slice p.av t.vars.length p.cv) ∧ w'.cell? ⟨X, 6, none⟩ = some (.int .i64 s)) (by kernel_rfl) (HS1.out _ (by exact bel)) ?_
 intro hG0
 refine wpS1 0 hG0 ?_; intro hG1; clear hG0
 refine wpS1 1 hG1 ?_; intro hG2; clear hG1
 refine wpS1 2 hG2 ?_; intro hG3; clear hG2
 refine wpS1 3 hG3 ?_; intro hG4; clear hG3
 refine wpS2 4 hG4 ?_; intro hG5; clear hG4
 refine wpS1 5 hG5 ?_; intro hG6; clear hG5
 refine wpS1 6 hG6 ?_; intro hG7; clear hG6
 refine wpS1 7 hG7 ?_; intro hG8; clear hG7
 refine wpS1 9 hG8 ?_; intro hG9; clear hG8
 refine wpS1 10 hG9 ?_; intro hG10; clear hG9
 refine wpS1 11 hG10 ?_; intro hG11; clear hG10
 refine wpS2 12 hG11 ?_; intro hG12; clear hG11
 refine wpAnyG_ready (rs := [8]) (by kernel_rfl) (by simp) (AllG.cons rfl hG12 (fun K hK => ?_) AllG.nil)
 (go_simp; go_at_call 108; refine (KC.out _ (by exact bel)).mono ?_; rintro e w1 ⟨⟨L, lc, rfl, hrl⟩, hb1⟩; have HB1 := Lib.hid (show Below w.heap.size w w1 from below_step hb1 (show w.heap.size ≤ w.drew.heap.size from Nat.le_refl _) (Below.refl _ _).drew); have HRL := Lib.hid hrl; clear hb1 hrl)
 refine hK.out _ _ (Or.inr (HS1.out _ HB1.out)) (fun hG13 => wpN ?_); clear hK hG12
 refine wpAnyG_ready (rs := [13]) (by kernel_rfl) (by simp) (AllG.cons rfl hG13 (fun K hK => ?_) AllG.nil)
 (go_simp; go_at_call 107; refine (KV.out _ HB1.out _ _ HRL.out).mono ?_; rintro e w2 ⟨⟨bb, u, ec, rfl, hco⟩, hb2⟩; have HB2 := Lib.hid (show Below w.heap.size w w2 from HB1.out.trans (hb2.mono HB1.out.size)); have HCO := Lib.hid hco; clear hb2 hco)
 refine hK.out _ _ (Or.inl rfl) (fun hG14 => wpN ?_); clear hK hG13
 refine wpS1 14 hG14 ?_; intro hG15; clear hG14
 refine wpS1 15 hG15 ?_; intro hG16; clear hG15
 refine wpS1 16 hG16 ?_; intro hG17; clear hG16
 refine wpS1 17 hG17 ?_; intro hG18; clear hG17
 refine wpS1 18 hG18 ?_; intro hG19; clear hG18
 refine wpS1 19 hG19 ?_; intro hG20; clear hG19
 refine wpS1 20 hG20 ?_; intro hG21; clear hG20
 refine wpAnyG_done (by kernel_rfl) ?_ _; clear hG21
 have HX2 := Lib.hid (HX.out.up HB2.out)
 have x6 := HX2.out.cell 6 (.int .i64 s) rfl
 have hXl2 := HX2.out.lt
 by_cases e0 : ec = 0
 ·subst e0
  have hok := HCO.out.ok rfl
  obtain ⟨hu0, hu1, _⟩ := hok
  rw [erV_0]
  have xf := HX2.out.fz 6
  have HXY := Lib.hid (show CkB (w2.setCell ⟨X, 6, none⟩ (.int .i64 (s - u))) X t p b A ns.length c (s - u) from HX2.out.set 6 _)
  have HKY := Lib.hid (show Kb (fun b => b = X) w (w2.setCell ⟨X, 6, none⟩ (.int .i64 (s - u))) from Kb.set (bad := fun b => b = X) (p := ⟨X, 6, none⟩) (Kb.of_below HB2.out) (.inl rfl) _)
  go_wp2
  refine bodyPost_ret (v := .tuple #[.bool bb, erV 0]) (by simp [results, Tryz.results78, go_sem, erV]) rfl ⟨⟨bb, u, 0, s - u, rfl, HCO.out, HXY.out, .inl ⟨rfl, rfl⟩⟩, HKY.out⟩
 ·have HE0 := Lib.hid e0
  rw [erV_nz e0]
  go_wp2
  refine bodyPost_ret (v := .tuple #[.bool false, erV ec]) (by simp [results, Tryz.results78, go_sem, erV_nz e0]) rfl ⟨⟨false, u, ec, s, rfl, ?_, HX2.out, .inr ⟨HE0.out, rfl, rfl⟩⟩, Kb.of_below HB2.out⟩
  exact ⟨fun h => absurd h HE0.out, HCO.out.bad, fun a1 a2 a3 a4 => absurd (HCO.out.one a1 a2 a3 a4).2.2 HE0.out⟩
end

end Go.Proofs.YtlkebhiaimijiaaGreatDoor

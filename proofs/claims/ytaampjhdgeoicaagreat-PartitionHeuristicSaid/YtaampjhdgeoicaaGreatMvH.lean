/- Texts laid together: ErrI, AdW, HzP, HzW, HzL. -/
import Derived.Test.YtaampjhdgeoicaaGreatMfA
import Derived.WalkKit
import Derived.LaidEql
import Derived.Stop.Asserts
import Derived.RowKitTokens
import Derived.Test.YtaampjhdgeoicaaGreatMvD
import Derived.Test.YtaampjhdgeoicaaGreatPartF
import Derived.Test.YtaampjhdgeoicaaGreatLmC
import Derived.Test.YtaampjhdgeoicaaGreatLmCx
import Derived.Test.YtaampjhdgeoicaaGreatPoT
import Derived.Test.YtaampjhdgeoicaaGreatPartFR
import Derived.Test.YtaampjhdgeoicaaGreatMvG
import Derived.Test.YtaampjhdgeoicaaGreatPartH
import Derived.Test.YtaampjhdgeoicaaGreatPartE
import Derived.Test.YtaampjhdgeoicaaGreatGood
namespace Go.Proofs.YtaampjhdgeoicaaGreat
set_option linter.unusedSimpArgs false
set_option linter.unusedVariables false
section
open Go.RowKit Go.Extern.Stop Go.Stop Go.Extern
set_option linter.unusedVariables false

theorem ei_typeOf (v : Value) (w : World) : (callFunc 36 #[.iface 49 v]).run Tryz.prog w = .ok (.value (.iface 125 (.agg #[typeHandle Tryz.prog 49]))) w := by kernel_rfl
theorem ei_comparable (w : World) : (callFunc 142 #[.agg #[typeHandle Tryz.prog 49]]).run Tryz.prog w = .ok (.value (.bool true)) w := by kernel_rfl
theorem ei_comp : (Tryz.prog.info? 49).map (·.comparable) = some true := by kernel_rfl
theorem ei_method (v : Value) (w : World) : (Go.method 323 125 v "Comparable").run Tryz.prog w = .ok (142, v) w := by kernel_rfl
theorem ei_noIs (v : Value) (xT : TypeId) (w : World) : (Instr.typeAssert (.iface 49 v) xT 127 true).run Tryz.prog w = .ok (.tuple #[.nilIface, .bool false]) w := run_typeAssert_lacksB Tryz.underlying127 (by kernel_rfl) (by kernel_rfl) v xT w
theorem ei_noUn (v : Value) (xT : TypeId) (w : World) : (Instr.typeAssert (.iface 49 v) xT 130 true).run Tryz.prog w = .ok (.tuple #[.nilIface, .bool false]) w := run_typeAssert_lacksB Tryz.underlying130 (by kernel_rfl) (by kernel_rfl) v xT w
theorem ei_noUns (v : Value) (xT : TypeId) (w : World) : (Instr.typeAssert (.iface 49 v) xT 132 true).run Tryz.prog w = .ok (.tuple #[.nilIface, .bool false]) w := run_typeAssert_lacksB Tryz.underlying132 (by kernel_rfl) (by kernel_rfl) v xT w
theorem ei_eql (c k : Int) (w : World) : (binOp .eql 29 (.iface 49 (.int .i64 c)) (.iface 49 (.int .i64 k))).run Tryz.prog w = .ok (.bool (decide (c = k))) w := by
 obtain ⟨i, hi, hcmp⟩ := Option.map_eq_some_iff.1 ei_comp
 have h : ∀ d : Nat, (Op.equalIn (d + 2) 29 (.iface 49 (.int .i64 c)) (.iface 49 (.int .i64 k))).run Tryz.prog w = .ok (decide (c = k)) w := fun d => by
  by_cases e : c = k <;> simp [Op.equalIn, run_underlying Tryz.underlying29, run_underlying Tryz.underlying49, typeInfo, hi, hcmp, e]
 simp only [binOp]
 simp [Op.equal, Op.maxDepth, h 9998]

set_option maxRecDepth 20000 in
set_option maxHeartbeats 1000000 in
/-- errors.Is, of error codes. -/
theorem errIs_any (c k : Int) (w : World) : Calls Tryz.prog 14 #[errV c, .iface 49 (.int .i64 k)] w fun e w' => e = .returned (.bool (decide (c ≠ 0 ∧ c = k))) ∧ w' = w := by
 by_cases h : c = 0
 ·subst h
  rw [errV_0]
  have hn := run_eql_iface_nil_left (P := Tryz.prog) w 49 (.int .i64 k) Tryz.underlying29
  go_enter Tryz.func14, Tryz.ntmps14
  go_wp2
  go_ret
  exact ⟨by simp, rfl⟩
 ·have e : errV c = .iface 49 (.int .i64 c) := by unfold errV; rw [if_neg h]
  rw [e]
  have hd : decide (c ≠ 0 ∧ c = k) = decide (c = k) := by simp [h]
  rw [hd]
  clear e hd
  have tT := ei_typeOf
  have cT := ei_comparable
  have mR := ei_method
  have nE := ei_noIs
  have uE := ei_noUn
  have vE := ei_noUns
  have heq := ei_eql c k
  by_cases hk : c = k
  ·rw [decide_eq_true hk] at heq ⊢
   clear h hk
   go_enter Tryz.func14, Tryz.ntmps14
   go_wp2
   refine wp_loop_rounds 1 ?_
   rw [rounds_succ]
   go_wp2
   go_ret
   exact ⟨rfl, rfl⟩
  ·rw [decide_eq_false hk] at heq ⊢
   clear hk h
   go_enter Tryz.func14, Tryz.ntmps14
   go_wp2
   refine wp_loop_rounds 1 ?_
   rw [rounds_succ]
   go_wp2
   refine bodyPost_ret (v := .bool false) (by first | (simp [results, Tryz.results14, go_sem]; done) | kernel_rfl) rfl ⟨rfl, rfl⟩
end

section
open Go Go.RowKit
set_option linter.unusedVariables false

def OfRet (kind : Int) (costs : List Int) (l : List Cut) (w : World) (e : Ending) (w' : World) : Prop := (∃ n cd, OfIs kind costs l n cd ∧ e = .returned (.tuple #[.int .i64 n, errV cd])) ∧ Below w.heap.size w w'

set_option maxRecDepth 100000 in
set_option maxHeartbeats 4000000 in
theorem of_any (kind : Int) (costs : List Int) (l : List Cut) (A1 A2 : Option Addr) (c1 c2 : Nat) (w : World) (h1 : IntsAt w w.heap.size A1 costs) (h2 : CutsAt w w.heap.size A2 l) (hk : kind = 1 ∨ kind = 2 ∨ kind = 3) (g : Good38 costs l) (hn : costs.length ≤ 24) :
  Calls Tryz.prog 15 #[.int .i64 kind, .slice A1 costs.length c1, .slice A2 l.length c2] w (OfRet kind costs l w) := by
 have h0 := chk_of_good g
 have KV := Lib.hid (fun lv A c wx (h : FactsAt wx wx.heap.size A lv) => value38_any lv A c wx h)
 have hm := g.many
 rcases hk with rfl | rfl | rfl
 ·have kg := greedy_any costs l A1 A2 c1 c2 w h1 h2 (by omega)
  have e1 : greR costs l = greL costs l l.length := by unfold greR; rw [if_pos h0]
  unfold RetFs at kg
  rw [h0, e1, errV_0] at kg
  have KG := Lib.hid kg
  have HF := Lib.hid (show ∀ e w', e = .returned (.tuple #[.int .i64 (valR (greL costs l l.length)).1, errV (valR (greL costs l l.length)).2]) → Below w.heap.size w w' → OfRet 1 costs l w e w' from fun e w' he hb => ⟨⟨_, _, ⟨_, 0, .inl ⟨rfl, rfl, rfl⟩, .inr ⟨rfl, rfl, rfl⟩⟩, he⟩, hb⟩)
  obtain ⟨lv, hlv⟩ : ∃ lv, lv = greL costs l l.length := ⟨_, rfl⟩
  rw [← hlv] at KG HF
  clear hlv kg e1 h0 g h1 h2
  go_enter Tryz.func15, Tryz.ntmps15
  go_wp2_with fail
  refine KG.out.mono ?_
  rintro e w3 ⟨⟨v, rfl, A, c, rfl, _, hF⟩, hb3⟩
  have K3 := Lib.hid (KV.out lv A c w3 hF)
  obtain ⟨ev, hev⟩ : ∃ ev, ev = errV (valR lv).2 := ⟨_, rfl⟩
  obtain ⟨n, hn2⟩ : ∃ n, n = (valR lv).1 := ⟨_, rfl⟩
  rw [← hev, ← hn2] at K3 HF
  clear hev hn2 hF
  go_wp2_with fail
  refine K3.out.mono ?_
  rintro e w4 ⟨rfl, hb4⟩
  go_wp2
  refine bodyPost_ret (v := .tuple #[.int .i64 n, ev]) (by simp [results, Tryz.results15, go_sem]) rfl (HF.out _ _ rfl (hb3.trans (hb4.mono hb3.size)))
 ·have kg := uniform_any costs l A1 A2 c1 c2 w h1 h2 (by omega)
  have e1 : uniR costs l = uniL costs l l.length := by unfold uniR; rw [if_pos h0]
  unfold RetFs at kg
  rw [h0, e1, errV_0] at kg
  have KG := Lib.hid kg
  have HF := Lib.hid (show ∀ e w', e = .returned (.tuple #[.int .i64 (valR (uniL costs l l.length)).1, errV (valR (uniL costs l l.length)).2]) → Below w.heap.size w w' → OfRet 2 costs l w e w' from fun e w' he hb => ⟨⟨_, _, ⟨_, 0, .inr (.inl ⟨rfl, rfl, rfl⟩), .inr ⟨rfl, rfl, rfl⟩⟩, he⟩, hb⟩)
  obtain ⟨lv, hlv⟩ : ∃ lv, lv = uniL costs l l.length := ⟨_, rfl⟩
  rw [← hlv] at KG HF
  clear hlv kg e1 h0 g h1 h2
  go_enter Tryz.func15, Tryz.ntmps15
  go_wp2_with fail
  refine KG.out.mono ?_
  rintro e w3 ⟨⟨v, rfl, A, c, rfl, _, hF⟩, hb3⟩
  have K3 := Lib.hid (KV.out lv A c w3 hF)
  obtain ⟨ev, hev⟩ : ∃ ev, ev = errV (valR lv).2 := ⟨_, rfl⟩
  obtain ⟨n, hn2⟩ : ∃ n, n = (valR lv).1 := ⟨_, rfl⟩
  rw [← hev, ← hn2] at K3 HF
  clear hev hn2 hF
  go_wp2_with fail
  refine K3.out.mono ?_
  rintro e w4 ⟨rfl, hb4⟩
  go_wp2
  refine bodyPost_ret (v := .tuple #[.int .i64 n, ev]) (by simp [results, Tryz.results15, go_sem]) rfl (HF.out _ _ rfl (hb3.trans (hb4.mono hb3.size)))
 ·have KO := Lib.hid (optimal_any costs l A1 A2 c1 c2 w h1 h2 hn)
  have HE := Lib.hid (show ∀ cd e w', cd ≠ 0 → OptIs costs l [] cd → e = .returned (.tuple #[.int .i64 0, .iface 49 (.int .i64 cd)]) → Below w.heap.size w w' → OfRet 3 costs l w e w' from fun cd e w' hc ho he hb => ⟨⟨0, cd, ⟨_, cd, .inr (.inr ⟨rfl, ho⟩), .inl ⟨hc, rfl, rfl⟩⟩, by rw [errV_ne hc]; exact he⟩, hb⟩)
  have HF := Lib.hid (show ∀ lv e w', OptIs costs l lv 0 → e = .returned (.tuple #[.int .i64 (valR lv).1, errV (valR lv).2]) → Below w.heap.size w w' → OfRet 3 costs l w e w' from fun lv e w' ho he hb => ⟨⟨_, _, ⟨_, 0, .inr (.inr ⟨rfl, ho⟩), .inr ⟨rfl, rfl, rfl⟩⟩, he⟩, hb⟩)
  have H0 := Lib.hid h0
  clear h0 g h1 h2
  go_enter Tryz.func15, Tryz.ntmps15
  go_wp2_with fail
  refine KO.out.mono ?_
  rintro e w3 ⟨hp, hb3⟩
  rcases hp with ⟨hne, _⟩ | ⟨_, ⟨cd, hf, rfl⟩ | ⟨T, bx, hf, rfl, hx⟩⟩
  ·exact absurd H0.out hne
  ·have hcd : cd ≠ 0 := by
    obtain ⟨q, T, _, hl⟩ := hf
    cases hl <;> decide
   have HO := Lib.hid (show OptIs costs l [] cd from .inr ⟨hcd, rfl, hf⟩)
   have Hcd := Lib.hid hcd
   clear hf hcd
   go_wp2
   refine bodyPost_ret (v := .tuple #[.int .i64 0, .iface 49 (.int .i64 cd)]) (by simp [results, Tryz.results15, go_sem]) rfl (HE.out _ _ _ Hcd.out HO.out rfl hb3)
  ·have HO := Lib.hid (show OptIs costs l (frq (xB (keptL costs l).length T) l.length) 0 from .inl ⟨rfl, T, hf, rfl⟩)
   have K3 := Lib.hid (by have := KV.out (frq (xB (keptL costs l).length T) l.length) (some ⟨bx, 0, none⟩) l.length w3 (fr_facts hx (by omega)); rw [frq_len] at this; exact this : Calls Tryz.prog 40 #[.slice (some ⟨bx, 0, none⟩) l.length l.length] w3 fun e w' => e = .returned (.tuple #[.int .i64 (valR (frq (xB (keptL costs l).length T) l.length)).1, errV (valR (frq (xB (keptL costs l).length T) l.length)).2]) ∧ Below w3.heap.size w3 w')
   obtain ⟨lv, hlv⟩ : ∃ lv, lv = frq (xB (keptL costs l).length T) l.length := ⟨_, rfl⟩
   rw [← hlv] at K3 HO
   have HF2 := Lib.hid (fun e w' => HF.out lv e w' HO.out)
   obtain ⟨ev, hev⟩ : ∃ ev, ev = errV (valR lv).2 := ⟨_, rfl⟩
   obtain ⟨n, hn2⟩ : ∃ n, n = (valR lv).1 := ⟨_, rfl⟩
   rw [← hev, ← hn2] at K3 HF2
   clear hev hn2 hlv hx hf
   go_wp2_with fail
   refine K3.out.mono ?_
   rintro e w4 ⟨rfl, hb4⟩
   go_wp2
   refine bodyPost_ret (v := .tuple #[.int .i64 n, ev]) (by simp [results, Tryz.results15, go_sem]) rfl (HF2.out _ _ rfl (hb3.trans (hb4.mono hb3.size)))

theorem cut_take {l : List Cut} {k i : Nat} (h : i < k) : cut (l.take k) i = cut l i := by
 unfold cut
 simp [List.getD, h]
theorem cuts_take {w : World} {B : Nat} {A : Option Addr} {l : List Cut} (h : CutsAt w B A l) (k : Nat) : CutsAt w B A (l.take k) :=
 ⟨by have := h.1; rw [List.length_take]; omega, fun h0 => by
  rw [List.length_take] at h0
  obtain ⟨b, off, e, hb, hc⟩ := h.2 (by omega)
  refine ⟨b, off, e, hb, fun i hi => ?_⟩
  rw [List.length_take] at hi
  rw [cut_take (by omega)]
  exact hc i (by omega)⟩
theorem infoIh : (Tryz.prog.info? 3).map (fun i => (i.zero, i.size, i.bytes)) = some (some (.int .i64 0), 1, 8) := by kernel_rfl
theorem undIh : Tryz.prog.underlying 22 = some (.slice 3) := by kernel_rfl

set_option maxRecDepth 100000 in
set_option maxHeartbeats 8000000 in
theorem heur_any (t : Tsk) (p : Lies) (s : List Int) (AS : Option Addr) (cs : Nat) (kind : Int) (w : World) (ht : TaskAt w w.heap.size t p) (hs : IntsAt w w.heap.size AS s) (h0 : chkC t = 0) (hst : stB t.vars s = true) (hk : kind = 1 ∨ kind = 2 ∨ kind = 3) (hno : t.ops.length ≤ 24) :
  Calls Tryz.prog 5 #[TaskV t p, .slice AS s.length cs, .int .i64 kind] w fun e w' => (∃ n cd, HeurIs t s kind n cd ∧ e = .returned (.tuple #[.int .i64 n, errV cd])) ∧ Below w.heap.size w w' := by
 have hr := right_of h0
 have K1 := Lib.hid (fun wx (h : Below w.heap.size w wx) => k_new_any t p wx (ht.up h) h0)
 have K2 := Lib.hid (fun q G wx (hF : FindAt wx G t q) (h : Below w.heap.size w wx) => lcuts_any t q G s AS cs wx hF (hs.up h) hr)
 have K3 := Lib.hid (fun wx => (by have := errIs_any 0 3 wx; rw [errV_0] at this; exact this : Calls Tryz.prog 14 #[.nilIface, .iface 49 (.int .i64 3)] wx fun e w' => e = .returned (.bool false) ∧ w' = wx))
 have K4 := Lib.hid (fun wx => (by have := errIs_any 3 3 wx; rw [errV_ne (by decide)] at this; exact this : Calls Tryz.prog 14 #[.iface 49 (.int .i64 3), .iface 49 (.int .i64 3)] wx fun e w' => e = .returned (.bool true) ∧ w' = wx))
 have K5 := Lib.hid (fun cd wx => errIs_any cd 5 wx)
 have hk1 : ¬ kind < 1 := by omega
 have hk3 : ¬ 3 < kind := by omega
 have HK := Lib.hid hk
 have HT := Lib.hid ht
 have HR := Lib.hid hr
 have Hst := Lib.hid hst
 obtain ⟨ini, hii, kz0, kz1, kz2⟩ := info_parts infoIh
 have lo := hno
 obtain ⟨av, ai, ag, ao, cv, ci, cg, co⟩ := p
 unfold TaskV at *
 dsimp only at *
 clear ht hs h0 hst hk hr hno
 go_enter Tryz.func5, Tryz.ntmps5
 go_wp2_with fail
 refine (K1.out _ (by exact bel)).mono ?_
 rintro e w3 ⟨⟨G, q, rfl, hF⟩, hb3⟩
 have hbx0 : Boxed (w.alloc (.cells #[.slice av t.vars.length cv, .slice ai t.init.length ci, .slice ag t.goal.length cg, .slice ao t.ops.length co] 26)) w.heap.size t ⟨av, ai, ag, ao, cv, ci, cg, co⟩ := by constructor <;> simp
 have hbx := hbx0.up hb3
 have hbw : Below w.heap.size w w3 := ((Below.refl _ _).alloc (Nat.le_refl _) _).trans (hb3.mono (by simp))
 have z3 := hbw.size
 clear hbx0 hb3
 go_wp2_with fail
 refine (K2.out q G _ hF hbw).mono ?_
 rintro e w4 ⟨⟨v4, rfl, hv4⟩, hb4⟩
 have hbx4 := hbx.up hb4
 have hbw4 := hbw.trans (hb4.mono z3)
 have z4 := hbw4.size
 clear hbx hb4 hbw z3 hF
 have hcase : (lmC t s = 0) ∨ (lmC t s = 3) := by
  unfold lmC
  rw [Hst.out]
  cases hsM t.goal (rcB t s noF)
  ·exact .inr rfl
  ·exact .inl rfl
 rcases hcase with hc | hc
 case inr =>
  have HH := Lib.hid (show HeurIs t s kind 1125899906842624 0 from .inl ⟨hc, rfl, rfl⟩)
  rw [hc]
  have He3 : erV 3 = .iface 49 (.int .i64 3) := by unfold erV; rfl
  rw [He3]
  clear hc hv4 He3
  go_wp2_with fail
  refine (K4.out _).mono ?_
  rintro e _ ⟨rfl, rfl⟩
  go_wp2
  refine bodyPost_ret (v := .tuple #[.int .i64 1125899906842624, .nilIface]) (by simp [results, Tryz.results5, go_sem]) rfl ⟨⟨_, _, HH.out, by rw [errV_0]⟩, hbw4⟩
 rw [hc, erV_0]
 obtain ⟨A4, c4, rfl, ⟨_, hcap⟩, hC4⟩ := hv4
 have HC := Lib.hid (cuts_take hC4 24)
 have HG := Lib.hid (cuts_good (l := (cuL t s).take 24) HR.out hc (fun u hu => List.mem_of_mem_take hu) (by rw [List.length_take]; omega))
 have HH := Lib.hid (show ∀ n1 cd1 n cd, OfIs kind (cosN t t.ops.length) ((cuL t s).take 24) n1 cd1 → ((cd1 = 5 ∧ OfIs 1 (cosN t t.ops.length) ((cuL t s).take 24) n cd) ∨ (cd1 ≠ 5 ∧ n = n1 ∧ cd = cd1)) → HeurIs t s kind n cd from fun n1 cd1 n cd h1 h2 => .inr ⟨hc, n1, cd1, h1, h2⟩)
 have lc := hC4.len
 have hmn : min (cuL t s).length 24 = ((cuL t s).take 24).length := by rw [List.length_take]; omega
 obtain ⟨L, hL⟩ : ∃ L, L = (cuL t s).take 24 := ⟨_, rfl⟩
 rw [← hL] at HC HG HH hmn
 obtain ⟨m, hm⟩ : ∃ m, m = (cuL t s).length := ⟨_, rfl⟩
 rw [← hm] at hcap lc hmn ⊢
 have hL1 : L.length ≤ m := by omega
 have hL2 : L.length ≤ 24 := by omega
 have hmn2 : min (m : Int) 24 = (L.length : Int) := by omega
 have hmn3 : (if (m : Int) < 24 then (m : Int) else 24) = (L.length : Int) := by split <;> omega
 have hmn4 : (if (24 : Int) < (m : Int) then 24 else (m : Int)) = (L.length : Int) := by split <;> omega
 clear hL hm hC4 hc
 obtain ⟨z0, y0, y1, y2, y3⟩ := id hbx4
 dsimp only at y0 y1 y2 y3
 go_wp2_with fail
 refine (K3.out _).mono ?_
 rintro e w5 ⟨rfl, rfl⟩
 go_wp2
 go_loopw [11, 52] (fun v i wr => ∃ (k : Nat) (A' : Option Addr) (c' : Nat), k ≤ t.ops.length ∧ i = .int .i64 k ∧ v = .slice A' k c' ∧ Hid (wr.ownsRow w5.heap.size 3 1 (.slice A' k c') (cosN t k).length (ic (cosN t k))) ∧ Below w5.heap.size w5 wr) (fun _ i _ => t.ops.length - (intOf i).toNat)
 case atStart => exact ⟨0, none, 0, by omega, rfl, rfl, Lib.hid (World.ownsRow_nil _ _ _ _), Below.refl _ _⟩
 case round =>
  clear z0 y0 y1 y2 y3 hmn2 hmn3 hmn4
  obtain ⟨k, A', c', hk, rfl, rfl, hown, hbel⟩ := hrel
  obtain ⟨wt, hwt⟩ : ∃ wt : World, wt = wr := ⟨_, rfl⟩
  rw [← hwt] at hown hbel ⊢
  clear hwt
  have zt := hbel.size
  have hbt := hbw4.trans (hbel.mono z4)
  have zwt := hbt.size
  have Hl1 := Lib.hid (cosN_len t k)
  have Hl2 := Lib.hid (cosN_len t (k + 1))
  have HSc := Lib.hid (cosN_succ t k)
  by_cases hlt : k < t.ops.length
  ·obtain ⟨b, o, S, cS, T, d, eo, hbo, n0, n1, n2, n3, f2, n4, e3⟩ := HT.out.ops.at2 hbt hlt
   dsimp only at eo
   subst eo
   have gb : b < wt.heap.size := by omega
   have j1 := f2.len
   have j2 := e3.len
   have k0 : (0 : Int) ≤ (k : Int) := by omega
   have k1 : (k : Int) < (t.ops.length : Int) := by omega
   obtain ⟨C, hC⟩ : ∃ C, C = (opr t.ops k).cost := ⟨_, rfl⟩
   rw [← hC] at n2 HSc
   clear f2 e3 hC
   go_wp2_with (at_builtin; refine wpList_push rfl _ _ 22 rfl w5.heap.size 3 ini (.int .i64 0) 1 8 undIh hii kz0 kz1 kz2 rfl (by decide) (by decide) (.slice A' k c') (cosN t k).length (ic (cosN t k)) rfl ((hown.out.alloc _).alloc _) (wt.heap.size + 1) 3 [.int .i64 C] rfl rfl (heap_two2 _ _ _) (one_one rfl) (by have := Hl1.out; omega) (by first | omega | (simp; omega)) (B := w5.heap.size) (W := w5) ((hbel.alloc zt _).alloc (by simp; omega) _) (Nat.le_refl _) ?_; intro v8 w8 ho8 hg8 hat8 hb8; have ho9 : w8.ownsRow w5.heap.size 3 1 v8 (cosN t (k + 1)).length (ic (cosN t (k + 1))) := (by rw [HSc.out, List.length_append]; unfold ic; rw [List.map_append]; exact ho8); obtain ⟨A8, c8, rfl⟩ := own_shapeL ho9 Hl2.out; have Ho9 := Lib.hid ho9; clear ho8 ho9 hg8 hat8)
   go_roundw
   case rel => exact ⟨k + 1, A8, c8, by omega, by go_num, rfl, Ho9, hb8⟩
   case measure => simp [intOf]; omega
  ·have : k = t.ops.length := by omega
   subst this
   obtain ⟨Ac, cc, ec, _, hI⟩ := own_ints2 (own_len hown.out rfl) (by have := Hl1.out; omega)
   rw [Hl1.out] at ec
   injection ec with ec1 _ ec3
   subst ec1 ec3
   have HI := Lib.hid hI
   have KO := Lib.hid (fun kind' hk' wx (h : Below wt.heap.size wt wx) => (by have := of_any kind' (cosN t t.ops.length) L A' A4 c' c4 wx (HI.out.up h) (HC.out.up (hbel.trans (h.mono zt))) hk' HG.out (by rw [cosN_len]; exact lo); rw [cosN_len] at this; exact this : Calls Tryz.prog 15 #[.int .i64 kind', .slice A' t.ops.length c', .slice A4 L.length c4] wx (OfRet kind' (cosN t t.ops.length) L wx)))
   clear hI hown
   go_wp2_with fail
   refine (KO.out kind HK.out wt (Below.refl _ _)).mono ?_
   rintro e w6 ⟨⟨n1, cd1, hof, rfl⟩, hb6⟩
   have hbt6 := hbt.trans (hb6.mono zwt)
   have z6 := hbt6.size
   have H6 := Lib.hid hof
   by_cases h5 : cd1 = 5
   ·subst h5
    have K6 := Lib.hid (by have := K5.out 5 w6; rw [decide_eq_true (by decide)] at this; exact this : Calls Tryz.prog 14 #[errV 5, .iface 49 (.int .i64 5)] w6 fun e w' => e = .returned (.bool true) ∧ w' = w6)
    have K7 := Lib.hid (KO.out 1 (.inl rfl) w6 hb6)
    obtain ⟨ev, hev⟩ : ∃ ev, ev = errV 5 := ⟨_, rfl⟩
    rw [← hev] at K6 ⊢
    clear hev hof
    go_wp2_with fail
    refine K6.out.mono ?_
    rintro e w7 ⟨rfl, rfl⟩
    go_wp2_with fail
    refine K7.out.mono ?_
    rintro e w8 ⟨⟨n, cd, hof, rfl⟩, hb8⟩
    have HF := Lib.hid (HH.out _ _ n cd H6.out (.inl ⟨rfl, hof⟩))
    have HF2 := Lib.hid (show ∃ n' cd', HeurIs t s kind n' cd' ∧ Ending.returned (.tuple #[.int .i64 n, errV cd]) = .returned (.tuple #[.int .i64 n', errV cd']) from ⟨n, cd, HF.out, rfl⟩)
    obtain ⟨ev2, hev2⟩ : ∃ ev, ev = errV cd := ⟨_, rfl⟩
    rw [← hev2] at HF2 ⊢
    clear hof hev2
    go_wp2
    refine bodyPost_ret (v := .tuple #[.int .i64 n, ev2]) (by simp [results, Tryz.results5, go_sem]) rfl ⟨HF2.out, hbt6.trans (hb8.mono z6)⟩
   ·have K6 := Lib.hid (by have := K5.out cd1 w6; rw [decide_eq_false (fun h => h5 h.2)] at this; exact this : Calls Tryz.prog 14 #[errV cd1, .iface 49 (.int .i64 5)] w6 fun e w' => e = .returned (.bool false) ∧ w' = w6)
    have HF := Lib.hid (HH.out _ _ n1 cd1 H6.out (.inr ⟨h5, rfl, rfl⟩))
    have HF2 := Lib.hid (show ∃ n' cd', HeurIs t s kind n' cd' ∧ Ending.returned (.tuple #[.int .i64 n1, errV cd1]) = .returned (.tuple #[.int .i64 n', errV cd']) from ⟨n1, cd1, HF.out, rfl⟩)
    obtain ⟨ev, hev⟩ : ∃ ev, ev = errV cd1 := ⟨_, rfl⟩
    rw [← hev] at K6 HF2 ⊢
    clear hev hof h5
    go_wp2_with fail
    refine K6.out.mono ?_
    rintro e w7 ⟨rfl, rfl⟩
    go_wp2
    refine bodyPost_ret (v := .tuple #[.int .i64 n1, ev]) (by simp [results, Tryz.results5, go_sem]) rfl ⟨HF2.out, hbt6⟩
end

section
open Go Go.RowKit
set_option linter.unusedVariables false

def RHeurIs (t : Tsk) (s : List Int) (kind n : Int) : Prop :=
 (lmC t s = 3 ∧ n = INF) ∨ (lmC t s = 0 ∧ ∃ lv c0, LvIs kind (cosN t t.ops.length) ((cuL t s).take 24) lv c0 ∧
  ((c0 = 0 ∧ (valR lv).2 = 0 ∧ n = (valR lv).1) ∨ ((c0 ≠ 0 ∨ (valR lv).2 ≠ 0) ∧ n = (valR (greL (cosN t t.ops.length) ((cuL t s).take 24) ((cuL t s).take 24).length)).1)))
theorem hz_tab {costs : List Int} {l : List Cut} (g : Good38 costs l) (hn : costs.length ≤ 24) : Tab (keptL costs l).length (l.length + (keptL costs l).length) (T37 (onL l.length) (opR l (keptL costs l)) (opB costs (keptL costs l))) := by
 have := t37_tab (opt_chk g hn)
 rw [onL_len, opR_len] at this
 exact this
theorem lv_uni {kind : Int} {costs : List Int} {l : List Cut} {lv lv' : List (Int × Int)} {c c' : Int} (g : Good38 costs l) (hn : costs.length ≤ 24) (h : LvIs kind costs l lv c) (h' : LvIs kind costs l lv' c') : lv = lv' ∧ c = c' := by
 rcases h with ⟨k1, rfl, rfl⟩ | ⟨k1, rfl, rfl⟩ | ⟨k1, h⟩
 ·rcases h' with ⟨_, rfl, rfl⟩ | ⟨k2, _⟩ | ⟨k2, _⟩
  ·exact ⟨rfl, rfl⟩
  ·omega
  ·omega
 ·rcases h' with ⟨k2, _⟩ | ⟨_, rfl, rfl⟩ | ⟨k2, _⟩
  ·omega
  ·exact ⟨rfl, rfl⟩
  ·omega
 ·rcases h' with ⟨k2, _⟩ | ⟨k2, _⟩ | ⟨_, h'⟩
  ·omega
  ·omega
  ·rcases h with ⟨rfl, T, hf, rfl⟩ | ⟨hc, rfl, hf⟩
   ·rcases h' with ⟨rfl, T', hf', rfl⟩ | ⟨_, _, hf'⟩
    ·have e := fin_uni (hz_tab g hn) hf hf'
     injection e with e
     subst e
     exact ⟨rfl, rfl⟩
    ·have e := fin_uni (hz_tab g hn) hf hf'
     cases e
   ·rcases h' with ⟨_, T', hf', _⟩ | ⟨_, rfl, hf'⟩
    ·have e := fin_uni (hz_tab g hn) hf hf'
     cases e
    ·have e := fin_uni (hz_tab g hn) hf hf'
     injection e with e
     exact ⟨rfl, e⟩
theorem hz_same {t : Tsk} {s : List Int} {kind n n' cd : Int} (hr : Right t) (hno : t.ops.length ≤ 24) (h : HeurIs t s kind n cd) (h' : RHeurIs t s kind n') : n = n' ∧ cd = 0 := by
 rcases h with ⟨h3, rfl, rfl⟩ | ⟨h0, n1, cd1, hof, h2⟩
 ·rcases h' with ⟨_, rfl⟩ | ⟨h0, _⟩
  ·exact ⟨rfl, rfl⟩
  ·omega
 ·rcases h' with ⟨h3, _⟩ | ⟨_, lv, c0, hl, h3⟩
  ·omega
  ·have g := cuts_good (s := s) hr h0 (l := (cuL t s).take 24) (fun u hu => List.mem_of_mem_take hu) (by rw [List.length_take]; omega)
   have hn : (cosN t t.ops.length).length ≤ 24 := by rw [cosN_len]; exact hno
   have h05 := of_good g hn hof
   obtain ⟨lv', c0', hl', hv⟩ := hof
   obtain ⟨rfl, rfl⟩ := lv_uni g hn hl hl'
   have hg5 : ∀ {n cd}, OfIs 1 (cosN t t.ops.length) ((cuL t s).take 24) n cd → n = (valR (greL (cosN t t.ops.length) ((cuL t s).take 24) ((cuL t s).take 24).length)).1 ∧ cd = 0 := fun {n cd} h => by
    have h6 := of_good g hn h
    obtain ⟨lv2, c2, hl2, hv2⟩ := h
    obtain ⟨rfl, rfl⟩ := lv_uni g hn hl2 (.inl ⟨rfl, rfl, rfl⟩)
    rcases hv2 with ⟨hx, _⟩ | ⟨_, rfl, hc⟩
    ·exact absurd rfl hx
    ·refine ⟨rfl, ?_⟩
     rcases h6 with ⟨_, h6⟩ | ⟨h6, _⟩
     ·exact absurd rfl h6
     ·exact h6
   rcases h2 with ⟨rfl, h2⟩ | ⟨h5, rfl, rfl⟩
   ·obtain ⟨rfl, rfl⟩ := hg5 h2
    rcases h3 with ⟨e1, e2, _⟩ | ⟨_, rfl⟩
    ·rcases hv with ⟨e3, _⟩ | ⟨_, _, e3⟩
     ·exact absurd e1 e3
     ·omega
    ·exact ⟨rfl, rfl⟩
   ·have hc : cd = 0 := by
     rcases h05 with ⟨e, _⟩ | ⟨e, _⟩
     ·exact absurd e h5
     ·exact e
    subst hc
    rcases hv with ⟨e1, _, e2⟩ | ⟨e1, rfl, e2⟩
    ·omega
    ·rcases h3 with ⟨_, _, rfl⟩ | ⟨e3, _⟩
     ·exact ⟨rfl, rfl⟩
     ·exfalso
      rcases e3 with e3 | e3
      ·exact e3 e1
      ·omega
end

section
open Go Go.RowKit
set_option linter.unusedVariables false

set_option maxRecDepth 100000 in
set_option maxHeartbeats 8000000 in
theorem new_no' (t : Tsk) (p : Lies) (w : World) (ht : TaskAt w w.heap.size t p) (e0 : chkC t ≠ 0) :
  Calls Tryz.prog 12 #[TaskV t p] w fun e w' => e = .returned (.tuple #[.pointer none, .iface 49 (.int .i64 (chkC t))]) ∧ Below w.heap.size w w' := new_no t p w ht e0
set_option maxRecDepth 100000 in
set_option maxHeartbeats 4000000 in
theorem heur_no (t : Tsk) (p : Lies) (s : List Int) (AS : Option Addr) (cs : Nat) (kind : Int) (w : World) (ht : TaskAt w w.heap.size t p) (hs : IntsAt w w.heap.size AS s) (h0 : chkC t ≠ 0) :
  Calls Tryz.prog 5 #[TaskV t p, .slice AS s.length cs, .int .i64 kind] w fun e w' => e = .returned (.tuple #[.int .i64 0, .iface 49 (.int .i64 (chkC t))]) ∧ Below w.heap.size w w' := by
 have K1 := Lib.hid (fun wx (h : Below w.heap.size w wx) => new_no' t p wx (ht.up h) h0)
 clear h0
 obtain ⟨av, ai, ag, ao, cv, ci, cg, co⟩ := p
 unfold TaskV at *
 dsimp only at *
 clear ht hs
 go_enter Tryz.func5, Tryz.ntmps5
 go_wp2_with fail
 refine (K1.out _ (by exact bel)).mono ?_
 rintro e w3 ⟨rfl, hb3⟩
 have hbw : Below w.heap.size w w3 := ((Below.refl _ _).alloc (Nat.le_refl _) _).trans (hb3.mono (by simp))
 go_wp2
 refine bodyPost_ret (v := .tuple #[.int .i64 0, .iface 49 (.int .i64 (chkC t))]) (by simp [results, Tryz.results5, go_sem]) rfl ⟨rfl, hbw⟩

set_option maxRecDepth 100000 in
set_option maxHeartbeats 4000000 in
theorem heur_kind (t : Tsk) (p : Lies) (s : List Int) (AS : Option Addr) (cs : Nat) (kind : Int) (w : World) (ht : TaskAt w w.heap.size t p) (hs : IntsAt w w.heap.size AS s) (h0 : chkC t = 0) (hk : ¬ (1 ≤ kind ∧ kind ≤ 3)) :
  Calls Tryz.prog 5 #[TaskV t p, .slice AS s.length cs, .int .i64 kind] w fun e w' => e = .returned (.tuple #[.int .i64 0, .iface 49 (.int .i64 1)]) ∧ Below w.heap.size w w' := by
 have K1 := Lib.hid (fun wx (h : Below w.heap.size w wx) => k_new_any t p wx (ht.up h) h0)
 have Hk := Lib.hid hk
 clear h0 hk
 obtain ⟨av, ai, ag, ao, cv, ci, cg, co⟩ := p
 unfold TaskV at *
 dsimp only at *
 clear ht hs
 go_enter Tryz.func5, Tryz.ntmps5
 go_wp2_with fail
 refine (K1.out _ (by exact bel)).mono ?_
 rintro e w3 ⟨⟨G, q, rfl, _⟩, hb3⟩
 have hbw : Below w.heap.size w w3 := ((Below.refl _ _).alloc (Nat.le_refl _) _).trans (hb3.mono (by simp))
 clear hb3
 by_cases h1 : kind < 1
 ·go_wp2
  refine bodyPost_ret (v := .tuple #[.int .i64 0, .iface 49 (.int .i64 1)]) (by simp [results, Tryz.results5, go_sem]) rfl ⟨rfl, hbw⟩
 ·have h3 : 3 < kind := by have := Hk.out; omega
  go_wp2
  refine bodyPost_ret (v := .tuple #[.int .i64 0, .iface 49 (.int .i64 1)]) (by simp [results, Tryz.results5, go_sem]) rfl ⟨rfl, hbw⟩

set_option maxRecDepth 100000 in
set_option maxHeartbeats 4000000 in
theorem heur_st (t : Tsk) (p : Lies) (s : List Int) (AS : Option Addr) (cs : Nat) (kind : Int) (w : World) (ht : TaskAt w w.heap.size t p) (hs : IntsAt w w.heap.size AS s) (h0 : chkC t = 0) (hk : kind = 1 ∨ kind = 2 ∨ kind = 3) (hst : stB t.vars s = false) :
  Calls Tryz.prog 5 #[TaskV t p, .slice AS s.length cs, .int .i64 kind] w fun e w' => e = .returned (.tuple #[.int .i64 0, .iface 49 (.int .i64 2)]) ∧ Below w.heap.size w w' := by
 have hr := right_of h0
 have K1 := Lib.hid (fun wx (h : Below w.heap.size w wx) => k_new_any t p wx (ht.up h) h0)
 have hl2 : lmC t s = 2 := by unfold lmC; rw [hst]; rfl
 have K2 := Lib.hid (fun q G wx (hF : FindAt wx G t q) (h : Below w.heap.size w wx) => lcuts_any t q G s AS cs wx hF (hs.up h) hr)
 have K4 := Lib.hid (fun wx => (by have := errIs_any 2 3 wx; rw [errV_ne (by decide)] at this; exact this : Calls Tryz.prog 14 #[.iface 49 (.int .i64 2), .iface 49 (.int .i64 3)] wx fun e w' => e = .returned (.bool false) ∧ w' = wx))
 have hk1 : ¬ kind < 1 := by omega
 have hk3 : ¬ 3 < kind := by omega
 have HL := Lib.hid hl2
 clear h0 hk hst hr hl2
 obtain ⟨av, ai, ag, ao, cv, ci, cg, co⟩ := p
 unfold TaskV at *
 dsimp only at *
 clear ht hs
 go_enter Tryz.func5, Tryz.ntmps5
 go_wp2_with fail
 refine (K1.out _ (by exact bel)).mono ?_
 rintro e w3 ⟨⟨G, q, rfl, hF⟩, hb3⟩
 have hbw : Below w.heap.size w w3 := ((Below.refl _ _).alloc (Nat.le_refl _) _).trans (hb3.mono (by simp))
 have z3 := hbw.size
 clear hb3
 go_wp2_with fail
 refine (K2.out q G _ hF hbw).mono ?_
 rintro e w4 ⟨⟨v4, rfl, _⟩, hb4⟩
 have hbw4 := hbw.trans (hb4.mono z3)
 have z4 := hbw4.size
 clear hb4 hbw z3 hF
 rw [HL.out]
 have He2 : erV 2 = .iface 49 (.int .i64 2) := by unfold erV; rfl
 rw [He2]
 clear He2
 go_wp2_with fail
 refine (K4.out _).mono ?_
 rintro e w5 ⟨rfl, rfl⟩
 go_wp2
 refine bodyPost_ret (v := .tuple #[.int .i64 0, .iface 49 (.int .i64 2)]) (by simp [results, Tryz.results5, go_sem]) rfl ⟨rfl, hbw4⟩

set_option maxRecDepth 100000 in
set_option maxHeartbeats 4000000 in
theorem rheur_kind (v0 v1 v2 v3 vs : Value) (kind : Int) (w : World) (hk : ¬ (1 ≤ kind ∧ kind ≤ 3)) :
  Calls Tryz.prog 8 #[.agg #[v0, v1, v2, v3], vs, .int .i64 kind] w fun e w' => e = .returned (.tuple #[.int .i64 0, .int .i64 1]) ∧ Below w.heap.size w w' := by
 have Hk := Lib.hid hk
 clear hk
 go_enter Tryz.func8, Tryz.ntmps8
 by_cases h1 : kind < 1
 ·go_wp2
  refine bodyPost_ret (v := .tuple #[.int .i64 0, .int .i64 1]) (by simp [results, Tryz.results8, go_sem]) rfl ⟨rfl, by exact bel⟩
 ·have h3 : 3 < kind := by have := Hk.out; omega
  go_wp2
  refine bodyPost_ret (v := .tuple #[.int .i64 0, .int .i64 1]) (by simp [results, Tryz.results8, go_sem]) rfl ⟨rfl, by exact bel⟩
set_option maxRecDepth 100000 in
set_option maxHeartbeats 4000000 in
theorem rheur_st (t : Tsk) (p : Lies) (s : List Int) (AS : Option Addr) (cs : Nat) (kind : Int) (w : World) (ht : TaskAt w w.heap.size t p) (hs : IntsAt w w.heap.size AS s) (hk : kind = 1 ∨ kind = 2 ∨ kind = 3) (hst : stB t.vars s = false) :
  Calls Tryz.prog 8 #[TaskV t p, .slice AS s.length cs, .int .i64 kind] w fun e w' => e = .returned (.tuple #[.int .i64 0, .int .i64 2]) ∧ Below w.heap.size w w' := by
 have K1 := Lib.hid (fun wx (h : Below w.heap.size w wx) => (by have := state_any t.vars s p.av AS p.cv cs wx (ht.vars.up h) (hs.up h); rw [hst] at this; exact this : Calls Tryz.prog 16 #[.slice p.av t.vars.length p.cv, .slice AS s.length cs] wx fun e w' => e = .returned (.bool false) ∧ Below wx.heap.size wx w'))
 have hk1 : ¬ kind < 1 := by omega
 have hk3 : ¬ 3 < kind := by omega
 obtain ⟨av, ai, ag, ao, cv, ci, cg, co⟩ := p
 unfold TaskV at *
 dsimp only at *
 clear ht hs hk hst
 go_enter Tryz.func8, Tryz.ntmps8
 go_wp2_with fail
 refine (K1.out _ (by exact bel)).mono ?_
 rintro e w3 ⟨rfl, hb3⟩
 have hbw : Below w.heap.size w w3 := ((Below.refl _ _).alloc (Nat.le_refl _) _).trans (hb3.mono (by simp))
 go_wp2
 refine bodyPost_ret (v := .tuple #[.int .i64 0, .int .i64 2]) (by simp [results, Tryz.results8, go_sem]) rfl ⟨rfl, hbw⟩

set_option maxRecDepth 100000 in
set_option maxHeartbeats 8000000 in
theorem rheur_any (t : Tsk) (p : Lies) (s : List Int) (AS : Option Addr) (cs : Nat) (kind : Int) (w : World) (ht : TaskAt w w.heap.size t p) (hs : IntsAt w w.heap.size AS s) (h0 : chkC t = 0) (hst : stB t.vars s = true) (hk : kind = 1 ∨ kind = 2 ∨ kind = 3) (hno : t.ops.length ≤ 24) :
  Calls Tryz.prog 8 #[TaskV t p, .slice AS s.length cs, .int .i64 kind] w fun e w' => (∃ n, RHeurIs t s kind n ∧ e = .returned (.tuple #[.int .i64 n, .int .i64 0])) ∧ Below w.heap.size w w' := by
 have hr := right_of h0
 have K1 := Lib.hid (fun wx (h : Below w.heap.size w wx) => (by have := state_any t.vars s p.av AS p.cv cs wx (ht.vars.up h) (hs.up h); rw [hst] at this; exact this : Calls Tryz.prog 16 #[.slice p.av t.vars.length p.cv, .slice AS s.length cs] wx fun e w' => e = .returned (.bool true) ∧ Below wx.heap.size wx w'))
 have K2 := Lib.hid (fun wx (h : Below w.heap.size w wx) => rcuts_any t p s AS cs wx (ht.up h) (hs.up h) hr)
 have KV := Lib.hid (fun lv A c wx (h : FactsAt wx wx.heap.size A lv) => rvalue38_any lv A c wx h)
 have hk1 : ¬ kind < 1 := by omega
 have hk3 : ¬ 3 < kind := by omega
 have HK := Lib.hid hk
 have HT := Lib.hid ht
 have HR := Lib.hid hr
 have Hst := Lib.hid hst
 obtain ⟨ini, hii, kz0, kz1, kz2⟩ := info_parts infoIh
 have lo := hno
 obtain ⟨av, ai, ag, ao, cv, ci, cg, co⟩ := p
 unfold TaskV at *
 dsimp only at *
 clear ht hs h0 hst hk hr hno
 go_enter Tryz.func8, Tryz.ntmps8
 go_wp2_with fail
 refine (K1.out _ (by exact bel)).mono ?_
 rintro e w3 ⟨rfl, hb3⟩
 have hbx0 : Boxed (w.alloc (.cells #[.slice av t.vars.length cv, .slice ai t.init.length ci, .slice ag t.goal.length cg, .slice ao t.ops.length co] 26)) w.heap.size t ⟨av, ai, ag, ao, cv, ci, cg, co⟩ := by constructor <;> simp
 have hbx := hbx0.up hb3
 have hbw : Below w.heap.size w w3 := ((Below.refl _ _).alloc (Nat.le_refl _) _).trans (hb3.mono (by simp))
 have z3 := hbw.size
 obtain ⟨X, hX⟩ : ∃ X, X = w.heap.size := ⟨_, rfl⟩
 rw [← hX] at hbx ⊢
 clear hX hbx0 hb3
 obtain ⟨z0, y0, y1, y2, y3⟩ := id hbx
 dsimp only at y0 y1 y2 y3
 go_wp2_with fail
 refine (K2.out _ hbw).mono ?_
 rintro e w5 ⟨⟨v4, rfl, hv4⟩, hb4⟩
 have hbx4 := hbx.up hb4
 have hbw4 := hbw.trans (hb4.mono z3)
 have z4 := hbw4.size
 clear hbx hb4 hbw z3 z0 y0 y1 y2 y3
 have hcase : (lmC t s = 0) ∨ (lmC t s = 3) := by
  unfold lmC
  rw [Hst.out]
  cases hsM t.goal (rcB t s noF)
  ·exact .inr rfl
  ·exact .inl rfl
 rcases hcase with hc | hc
 case inr =>
  have HH := Lib.hid (show RHeurIs t s kind 1125899906842624 from .inl ⟨hc, rfl⟩)
  rw [hc]
  clear hc hv4
  go_wp2
  refine bodyPost_ret (v := .tuple #[.int .i64 1125899906842624, .int .i64 0]) (by simp [results, Tryz.results8, go_sem]) rfl ⟨⟨_, HH.out, rfl⟩, hbw4⟩
 rw [hc]
 obtain ⟨A4, c4, rfl, ⟨_, hcap⟩, hC4⟩ := hv4
 have HC := Lib.hid (cuts_take hC4 24)
 have HG := Lib.hid (cuts_good (l := (cuL t s).take 24) HR.out hc (fun u hu => List.mem_of_mem_take hu) (by rw [List.length_take]; omega))
 have HH := Lib.hid (show ∀ lv c0 n, LvIs kind (cosN t t.ops.length) ((cuL t s).take 24) lv c0 → ((c0 = 0 ∧ (valR lv).2 = 0 ∧ n = (valR lv).1) ∨ ((c0 ≠ 0 ∨ (valR lv).2 ≠ 0) ∧ n = (valR (greL (cosN t t.ops.length) ((cuL t s).take 24) ((cuL t s).take 24).length)).1)) → RHeurIs t s kind n from fun lv c0 n h1 h2 => .inr ⟨hc, lv, c0, h1, h2⟩)
 have lc := hC4.len
 have hmn : min (cuL t s).length 24 = ((cuL t s).take 24).length := by rw [List.length_take]; omega
 obtain ⟨L, hL⟩ : ∃ L, L = (cuL t s).take 24 := ⟨_, rfl⟩
 rw [← hL] at HC HG HH hmn
 obtain ⟨m, hm⟩ : ∃ m, m = (cuL t s).length := ⟨_, rfl⟩
 rw [← hm] at hcap lc hmn ⊢
 have hL1 : L.length ≤ m := by omega
 have hL2 : L.length ≤ 24 := by omega
 have hmn2 : min (m : Int) 24 = (L.length : Int) := by omega
 have hmn3 : (if (m : Int) < 24 then (m : Int) else 24) = (L.length : Int) := by split <;> omega
 have hmn4 : (if (24 : Int) < (m : Int) then 24 else (m : Int)) = (L.length : Int) := by split <;> omega
 clear hL hm hC4 hc
 obtain ⟨z0, y0, y1, y2, y3⟩ := id hbx4
 dsimp only at y0 y1 y2 y3
 go_wp2
 go_loopw [10, 44] (fun v i wr => ∃ (k : Nat) (A' : Option Addr) (c' : Nat), k ≤ t.ops.length ∧ i = .int .i64 k ∧ v = .slice A' k c' ∧ Hid (wr.ownsRow w5.heap.size 3 1 (.slice A' k c') (cosN t k).length (ic (cosN t k))) ∧ Below w5.heap.size w5 wr) (fun _ i _ => t.ops.length - (intOf i).toNat)
 case atStart => exact ⟨0, none, 0, by omega, rfl, rfl, Lib.hid (World.ownsRow_nil _ _ _ _), Below.refl _ _⟩
 case round =>
  clear z0 y0 y1 y2 y3 hmn2 hmn3 hmn4
  obtain ⟨k, A', c', hk, rfl, rfl, hown, hbel⟩ := hrel
  obtain ⟨wt, hwt⟩ : ∃ wt : World, wt = wr := ⟨_, rfl⟩
  rw [← hwt] at hown hbel ⊢
  clear hwt
  have zt := hbel.size
  have hbt := hbw4.trans (hbel.mono z4)
  have zwt := hbt.size
  have Hl1 := Lib.hid (cosN_len t k)
  have Hl2 := Lib.hid (cosN_len t (k + 1))
  have HSc := Lib.hid (cosN_succ t k)
  by_cases hlt : k < t.ops.length
  ·obtain ⟨b, o, S, cS, T, d, eo, hbo, n0, n1, n2, n3, f2, n4, e3⟩ := HT.out.ops.at2 hbt hlt
   dsimp only at eo
   subst eo
   have gb : b < wt.heap.size := by omega
   have j1 := f2.len
   have j2 := e3.len
   have k0 : (0 : Int) ≤ (k : Int) := by omega
   have k1 : (k : Int) < (t.ops.length : Int) := by omega
   obtain ⟨C, hC⟩ : ∃ C, C = (opr t.ops k).cost := ⟨_, rfl⟩
   rw [← hC] at n2 HSc
   clear f2 e3 hC
   go_wp2_with (at_builtin; refine wpList_push rfl _ _ 22 rfl w5.heap.size 3 ini (.int .i64 0) 1 8 undIh hii kz0 kz1 kz2 rfl (by decide) (by decide) (.slice A' k c') (cosN t k).length (ic (cosN t k)) rfl ((hown.out.alloc _).alloc _) (wt.heap.size + 1) 3 [.int .i64 C] rfl rfl (heap_two2 _ _ _) (one_one rfl) (by have := Hl1.out; omega) (by first | omega | (simp; omega)) (B := w5.heap.size) (W := w5) ((hbel.alloc zt _).alloc (by simp; omega) _) (Nat.le_refl _) ?_; intro v8 w8 ho8 hg8 hat8 hb8; have ho9 : w8.ownsRow w5.heap.size 3 1 v8 (cosN t (k + 1)).length (ic (cosN t (k + 1))) := (by rw [HSc.out, List.length_append]; unfold ic; rw [List.map_append]; exact ho8); obtain ⟨A8, c8, rfl⟩ := own_shapeL ho9 Hl2.out; have Ho9 := Lib.hid ho9; clear ho8 ho9 hg8 hat8)
   go_roundw
   case rel => exact ⟨k + 1, A8, c8, by omega, by go_num, rfl, Ho9, hb8⟩
   case measure => simp [intOf]; omega
  ·have : k = t.ops.length := by omega
   subst this
   obtain ⟨Ac, cc, ec, hz, hI⟩ := own_ints2 (own_len hown.out rfl) (by have := Hl1.out; omega)
   rw [Hl1.out] at ec
   injection ec with ec1 _ ec3
   subst ec1 ec3
   have HI := Lib.hid hI
   have g0 := chk_of_good HG.out
   have hln : (cosN t t.ops.length).length ≤ 24 := by rw [cosN_len]; exact lo
   have hgre : (valR (greL (cosN t t.ops.length) L L.length)).2 = 0 := by unfold valR; rw [if_pos (gre_code HG.out)]
   have kg := fun wx (h : Below wt.heap.size wt wx) => rgreedy_any (cosN t t.ops.length) L A' A4 c' c4 wx (HI.out.up h) (HC.out.up (hbel.trans (h.mono zt))) (by omega) hz
   have ku := fun wx (h : Below wt.heap.size wt wx) => runiform_any (cosN t t.ops.length) L A' A4 c' c4 wx (HI.out.up h) (HC.out.up (hbel.trans (h.mono zt)))
   have ko := fun wx (h : Below wt.heap.size wt wx) => roptimal_any (cosN t t.ops.length) L A' A4 c' c4 wx (HI.out.up h) (HC.out.up (hbel.trans (h.mono zt))) hln
   have e1 : greR (cosN t t.ops.length) L = greL (cosN t t.ops.length) L L.length := by unfold greR; rw [if_pos g0]
   have e2 : uniR (cosN t t.ops.length) L = uniL (cosN t t.ops.length) L L.length := by unfold uniR; rw [if_pos g0]
   unfold RetFk at kg ku
   simp only [g0, e1, cosN_len] at kg
   simp only [g0, e2, cosN_len] at ku
   simp only [cosN_len] at ko
   have G0 := Lib.hid g0
   obtain ⟨gl, hgl⟩ : ∃ gl, gl = greL (cosN t t.ops.length) L L.length := ⟨_, rfl⟩
   have HGL := Lib.hid hgl
   rw [← hgl] at kg HH hgre
   obtain ⟨gn, hgn⟩ : ∃ gn, gn = (valR gl).1 := ⟨_, rfl⟩
   have KG := Lib.hid kg
   have KU := Lib.hid ku
   have KO := Lib.hid ko
   have KVg := Lib.hid (fun A c wx (h : FactsAt wx wx.heap.size A gl) => (by have := KV.out gl A c wx h; rw [hgre, ← hgn] at this; exact this : Calls Tryz.prog 24 #[.slice A gl.length c] wx fun e w' => e = .returned (.tuple #[.int .i64 gn, .int .i64 0]) ∧ Below wx.heap.size wx w'))
   rw [← hgn] at HH
   have Hgre := Lib.hid hgre
   have HGN := Lib.hid hgn
   clear hI hown kg ku ko g0 e1 e2 hz hgl hgre hgn
   go_wp2_with fail
   refine (KG.out wt (Below.refl _ _)).mono ?_
   rintro e w6 ⟨⟨v6, rfl, A6, c6, rfl, _, F6⟩, hb6⟩
   have HF6 := Lib.hid F6
   have hbt6 := hbt.trans (hb6.mono zwt)
   have z6 := hbt6.size
   have HB6 := Lib.hid hb6
   clear F6 hb6
   rcases HK.out with hkk | hkk | hkk
   ·subst hkk
    have HF := Lib.hid (HH.out gl 0 gn (.inl ⟨rfl, HGL.out, rfl⟩) (.inl ⟨rfl, Hgre.out, HGN.out⟩))
    go_wp2_with fail
    refine (KVg.out A6 c6 w6 HF6.out).mono ?_
    rintro e w7 ⟨rfl, hb7⟩
    go_wp2
    refine bodyPost_ret (v := .tuple #[.int .i64 gn, .int .i64 0]) (by simp [results, Tryz.results8, go_sem]) rfl ⟨⟨gn, HF.out, rfl⟩, hbt6.trans (hb7.mono z6)⟩
   ·subst hkk
    go_wp2_with fail
    refine (KU.out w6 HB6.out).mono ?_
    rintro e w7 ⟨⟨v7, rfl, A7, c7, rfl, _, F7⟩, hb7⟩
    have hbt7 := hbt6.trans (hb7.mono z6)
    have z7 := hbt7.size
    obtain ⟨lv, hlv⟩ : ∃ lv, lv = uniL (cosN t t.ops.length) L L.length := ⟨_, rfl⟩
    rw [← hlv] at F7 ⊢
    have HLV := Lib.hid (show LvIs 2 (cosN t t.ops.length) L lv 0 from .inr (.inl ⟨rfl, hlv, rfl⟩))
    have HF67 := Lib.hid (factsAt_up HF6.out hb7)
    clear hlv hb7
    have kv := KV.out lv A7 c7 w7 F7
    obtain ⟨n1, hn1⟩ : ∃ n1, n1 = (valR lv).1 := ⟨_, rfl⟩
    obtain ⟨d1, hd1⟩ : ∃ d1, d1 = (valR lv).2 := ⟨_, rfl⟩
    rw [← hn1, ← hd1] at kv
    have KV7 := Lib.hid kv
    by_cases hd : d1 = 0
    ·have HF := Lib.hid (HH.out lv 0 n1 HLV.out (.inl ⟨rfl, by rw [← hd1]; exact hd, hn1⟩))
     subst hd
     clear kv hn1 hd1 F7
     go_wp2_with fail
     refine KV7.out.mono ?_
     rintro e w8 ⟨rfl, hb8⟩
     go_wp2
     refine bodyPost_ret (v := .tuple #[.int .i64 n1, .int .i64 0]) (by simp [results, Tryz.results8, go_sem]) rfl ⟨⟨n1, HF.out, rfl⟩, hbt7.trans (hb8.mono z7)⟩
    ·have HF := Lib.hid (HH.out lv 0 gn HLV.out (.inr ⟨.inr (by rw [← hd1]; exact hd), rfl⟩))
     have hd2 : (d1 != 0) = true := by simpa using hd
     clear kv hn1 hd1 F7
     go_wp2_with fail
     refine KV7.out.mono ?_
     rintro e w8 ⟨rfl, hb8⟩
     have hbt8 := hbt7.trans (hb8.mono z7)
     go_wp2_with fail
     refine (KVg.out A6 c6 w8 (factsAt_up HF67.out hb8)).mono ?_
     rintro e w9 ⟨rfl, hb9⟩
     go_wp2
     refine bodyPost_ret (v := .tuple #[.int .i64 gn, .int .i64 0]) (by simp [results, Tryz.results8, go_sem]) rfl ⟨⟨gn, HF.out, rfl⟩, hbt8.trans (hb9.mono hbt8.size)⟩
   ·subst hkk
    go_wp2_with fail
    refine (KO.out w6 HB6.out).mono ?_
    rintro e w7 ⟨hpo, hb7⟩
    have hbt7 := hbt6.trans (hb7.mono z6)
    have z7 := hbt7.size
    have HF67 := Lib.hid (factsAt_up HF6.out hb7)
    rcases hpo with ⟨hne, _⟩ | ⟨_, ⟨cd, hcd, hf, rfl⟩ | ⟨T, A7, c7, hf, rfl, F7⟩⟩
    ·exact absurd G0.out hne
    ·have HF := Lib.hid (HH.out [] cd gn (.inr (.inr ⟨rfl, .inr ⟨hcd, rfl, hf⟩⟩)) (.inr ⟨.inl hcd, rfl⟩))
     have hcd' : (cd == 0) = false := by simpa using hcd
     have hcd2 : (cd != 0) = true := by simpa using hcd
     clear hf hb7
     go_wp2_with fail
     refine (KVg.out A6 c6 w7 HF67.out).mono ?_
     rintro e w8 ⟨rfl, hb8⟩
     go_wp2
     refine bodyPost_ret (v := .tuple #[.int .i64 gn, .int .i64 0]) (by simp [results, Tryz.results8, go_sem]) rfl ⟨⟨gn, HF.out, rfl⟩, hbt7.trans (hb8.mono z7)⟩
    ·obtain ⟨lv, hlv⟩ : ∃ lv, lv = frq (xB (keptL (cosN t t.ops.length) L).length T) L.length := ⟨_, rfl⟩
     have HLV := Lib.hid (show LvIs 3 (cosN t t.ops.length) L lv 0 from .inr (.inr ⟨rfl, .inl ⟨rfl, T, hf, hlv⟩⟩))
     have hll : lv.length = L.length := by rw [hlv, frq_len]
     rw [← hlv] at F7
     rw [← hll]
     clear hlv hb7 hf hll
     have kv := KV.out lv A7 c7 w7 F7
     obtain ⟨n1, hn1⟩ : ∃ n1, n1 = (valR lv).1 := ⟨_, rfl⟩
     obtain ⟨d1, hd1⟩ : ∃ d1, d1 = (valR lv).2 := ⟨_, rfl⟩
     rw [← hn1, ← hd1] at kv
     have KV7 := Lib.hid kv
     by_cases hd : d1 = 0
     ·have HF := Lib.hid (HH.out lv 0 n1 HLV.out (.inl ⟨rfl, by rw [← hd1]; exact hd, hn1⟩))
      subst hd
      clear kv hn1 hd1 F7
      go_wp2_with fail
      refine KV7.out.mono ?_
      rintro e w8 ⟨rfl, hb8⟩
      go_wp2
      refine bodyPost_ret (v := .tuple #[.int .i64 n1, .int .i64 0]) (by simp [results, Tryz.results8, go_sem]) rfl ⟨⟨n1, HF.out, rfl⟩, hbt7.trans (hb8.mono z7)⟩
     ·have HF := Lib.hid (HH.out lv 0 gn HLV.out (.inr ⟨.inr (by rw [← hd1]; exact hd), rfl⟩))
      have hd2 : (d1 != 0) = true := by simpa using hd
      clear kv hn1 hd1 F7
      go_wp2_with fail
      refine KV7.out.mono ?_
      rintro e w8 ⟨rfl, hb8⟩
      have hbt8 := hbt7.trans (hb8.mono z7)
      go_wp2_with fail
      refine (KVg.out A6 c6 w8 (factsAt_up HF67.out hb8)).mono ?_
      rintro e w9 ⟨rfl, hb9⟩
      go_wp2
      refine bodyPost_ret (v := .tuple #[.int .i64 gn, .int .i64 0]) (by simp [results, Tryz.results8, go_sem]) rfl ⟨⟨gn, HF.out, rfl⟩, hbt8.trans (hb9.mono hbt8.size)⟩
end

section
open Go Go.RowKit
set_option linter.unusedVariables false

/-- Heuristic, for whatever arguments; what the reference answers. -/
theorem heur_all (t : Tsk) (p : Lies) (s : List Int) (AS : Option Addr) (cs : Nat) (kind : Int) (w : World) (ht : TaskAt w w.heap.size t p) (hs : IntsAt w w.heap.size AS s) (hno : t.ops.length ≤ 24) :
  Calls Tryz.prog 5 #[TaskV t p, .slice AS s.length cs, .int .i64 kind] w fun e w' => (∃ n cd, e = .returned (.tuple #[.int .i64 n, errV cd]) ∧ (chkC t ≠ 0 → n = 0 ∧ cd ≠ 0) ∧ (chkC t = 0 → ∀ wx, Below w.heap.size w wx → Calls Tryz.prog 8 #[TaskV t p, .slice AS s.length cs, .int .i64 kind] wx fun e w' => e = .returned (.tuple #[.int .i64 n, .int .i64 cd]) ∧ Below wx.heap.size wx w')) ∧ Below w.heap.size w w' := by
 by_cases h0 : chkC t = 0
 case neg => exact (heur_no t p s AS cs kind w ht hs h0).mono fun e w' ⟨he, hb⟩ => ⟨⟨0, chkC t, by rw [errV_ne h0]; exact he, fun _ => ⟨rfl, h0⟩, fun h => absurd h h0⟩, hb⟩
 by_cases hk : 1 ≤ kind ∧ kind ≤ 3
 case neg => exact (heur_kind t p s AS cs kind w ht hs h0 hk).mono fun e w' ⟨he, hb⟩ => ⟨⟨0, 1, by rw [errV_ne (by decide)]; exact he, fun h => absurd h0 h, fun _ wx _ => rheur_kind _ _ _ _ _ kind wx hk⟩, hb⟩
 have hk' : kind = 1 ∨ kind = 2 ∨ kind = 3 := by omega
 cases hst : stB t.vars s
 ·exact (heur_st t p s AS cs kind w ht hs h0 hk' hst).mono fun e w' ⟨he, hb⟩ => ⟨⟨0, 2, by rw [errV_ne (by decide)]; exact he, fun h => absurd h0 h, fun _ wx h => rheur_st t p s AS cs kind wx (ht.up h) (hs.up h) hk' hst⟩, hb⟩
 ·refine (heur_any t p s AS cs kind w ht hs h0 hst hk' hno).mono fun e w' ⟨⟨n, cd, hh, he⟩, hb⟩ => ⟨⟨n, cd, he, fun h => absurd h0 h, fun _ wx h => ?_⟩, hb⟩
  refine (rheur_any t p s AS cs kind wx (ht.up h) (hs.up h) h0 hst hk' hno).mono fun e2 w2 ⟨⟨n', hr', he2⟩, hb2⟩ => ?_
  obtain ⟨rfl, rfl⟩ := hz_same (right_of h0) hno hh hr'
  exact ⟨he2, hb2⟩

set_option maxRecDepth 100000 in
set_option maxHeartbeats 8000000 in
theorem partitionHeuristic_any (t : Tsk) (p : Lies) (s : List Int) (AS : Option Addr) (cs : Nat) (kind : Int) (w : World) (ht : TaskAt w w.heap.size t p) (hs : IntsAt w w.heap.size AS s) :
  Calls Tryz.prog 3 #[TaskV t p, .slice AS s.length cs, .int .i64 kind] w fun e w' => e = .returned (.bool true) ∧ Below w.heap.size w w' := by
 have KA := Lib.hid awake38_any
 have KH := Lib.hid (fun wx (h : Below w.heap.size w wx) (hno : t.ops.length ≤ 24) => heur_all t p s AS cs kind wx (ht.up h) (hs.up h) hno)
 have KG := Lib.hid (fun wx (h : Below w.heap.size w wx) => good_any t p wx (ht.up h))
 have KS := Lib.hid (fun wx (h : Below w.heap.size w wx) => small_any t p wx (ht.up h))
 have lv := ht.vars.len
 have lo := ht.ops.len
 have ls := hs.len
 have HC := Lib.hid (goT_chk t)
 obtain ⟨av, ai, ag, ao, cv, ci, cg, co⟩ := p
 unfold TaskV at *
 dsimp only at *
 clear ht hs
 go_enter Tryz.func3, Tryz.ntmps3
 go_wp2_with fail
 refine (KA.out _).mono ?_
 rintro e w3 ⟨rfl, hb3⟩
 have hbx0 : Boxed (w.alloc (.cells #[.slice av t.vars.length cv, .slice ai t.init.length ci, .slice ag t.goal.length cg, .slice ao t.ops.length co] 26)) w.heap.size t ⟨av, ai, ag, ao, cv, ci, cg, co⟩ := by constructor <;> simp
 have hbx := hbx0.up hb3
 have hbw : Below w.heap.size w w3 := ((Below.refl _ _).alloc (Nat.le_refl _) _).trans (hb3.mono (by simp))
 have z3 := hbw.size
 obtain ⟨X, hX⟩ : ∃ X, X = w.heap.size := ⟨_, rfl⟩
 rw [← hX] at hbx ⊢
 clear hX hbx0 hb3
 obtain ⟨z0, y0, y1, y2, y3⟩ := id hbx
 dsimp only at y0 y1 y2 y3
 have hcase : ((12 : Int) < (t.vars.length : Int)) ∨ (¬ (12 : Int) < (t.vars.length : Int) ∧ (20 : Int) < (t.ops.length : Int)) ∨ (¬ (12 : Int) < (t.vars.length : Int) ∧ ¬ (20 : Int) < (t.ops.length : Int) ∧ (20 : Int) < (s.length : Int)) ∨ (¬ (12 : Int) < (t.vars.length : Int) ∧ ¬ (20 : Int) < (t.ops.length : Int) ∧ ¬ (20 : Int) < (s.length : Int)) := by omega
 rcases hcase with h1 | ⟨h1, h2⟩ | ⟨h1, h2, h3⟩ | ⟨h1, h2, h3⟩
 ·go_wp2_with fail
  refine (KA.out _).mono ?_
  rintro e w5 ⟨rfl, hb5⟩
  have B5 := hbw.trans (hb5.mono z3)
  go_wp2
  go_ret
  exact ⟨rfl, B5⟩
 ·go_wp2_with fail
  refine (KA.out _).mono ?_
  rintro e w5 ⟨rfl, hb5⟩
  have B5 := hbw.trans (hb5.mono z3)
  go_wp2
  go_ret
  exact ⟨rfl, B5⟩
 ·go_wp2_with fail
  refine (KA.out _).mono ?_
  rintro e w5 ⟨rfl, hb5⟩
  have B5 := hbw.trans (hb5.mono z3)
  go_wp2
  go_ret
  exact ⟨rfl, B5⟩
 go_wp2_with fail
 refine (KH.out w3 hbw (by omega)).mono ?_
 rintro e w4 ⟨⟨n, cd, rfl, hn1, hn2⟩, hb4⟩
 have hbx4 := hbx.up hb4
 have hbw4 := hbw.trans (hb4.mono z3)
 have z4 := hbw4.size
 have HN1 := Lib.hid hn1
 have HN2 := Lib.hid (fun h wx (hb : Below w4.heap.size w4 wx) => hn2 h wx (hb4.trans (hb.mono hb4.size)))
 clear z0 y0 y1 y2 y3 hbx hb4 hbw z3 hn1 hn2 h1 h2 h3
 obtain ⟨z0, y0, y1, y2, y3⟩ := id hbx4
 dsimp only at y0 y1 y2 y3
 have kg := KG.out w4 hbw4
 cases hg : goT t
 ·rw [hg] at kg
  have hne : chkC t ≠ 0 := fun h => by have := HC.out.2 h; rw [hg] at this; cases this
  obtain ⟨rfl, hcd⟩ := HN1.out hne
  have KG4 := Lib.hid kg
  rw [errV_ne hcd]
  clear kg hne hg
  go_wp2_with fail
  refine KG4.out.mono ?_
  rintro e w5 ⟨rfl, hb5⟩
  have hbw5 := hbw4.trans (hb5.mono z4)
  clear z0 y0 y1 y2 y3
  go_wp2
  go_ret
  exact ⟨rfl, hbw5⟩
 ·rw [hg] at kg
  have h0 : chkC t = 0 := HC.out.1 hg
  have KG4 := Lib.hid kg
  have KR := Lib.hid (HN2.out h0)
  obtain ⟨ev, hev⟩ : ∃ ev, ev = errV cd := ⟨_, rfl⟩
  have KN := Lib.hid (fun wx => (by have := num_any cd wx; rw [← hev] at this; exact this : Calls Tryz.prog 9 #[ev] wx fun e w' => e = .returned (.int .i64 cd) ∧ wx = w'))
  rw [← hev]
  clear kg h0 hg hev
  go_wp2_with fail
  refine KG4.out.mono ?_
  rintro e w5 ⟨rfl, hb5⟩
  have hbw5 := hbw4.trans (hb5.mono z4)
  have z5 := hbw5.size
  have hbx5 := hbx4.up hb5
  have HB5 := Lib.hid hb5
  have z45 := hb5.size
  clear z0 y0 y1 y2 y3 hb5
  obtain ⟨z0, y0, y1, y2, y3⟩ := id hbx5
  dsimp only at y0 y1 y2 y3
  have ks := KS.out w5 hbw5
  cases hsm : k_smB t
  ·rw [hsm] at ks
   have KS5 := Lib.hid ks
   clear ks hsm
   go_wp2_with fail
   refine KS5.out.mono ?_
   rintro e w6 ⟨rfl, hb6⟩
   have hbw6 := hbw5.trans (hb6.mono z5)
   clear z0 y0 y1 y2 y3
   go_wp2
   go_ret
   exact ⟨rfl, hbw6⟩
  ·rw [hsm] at ks
   have KS5 := Lib.hid ks
   clear ks hsm
   go_wp2_with fail
   refine KS5.out.mono ?_
   rintro e w6 ⟨rfl, hb6⟩
   have hbw6 := hbw5.trans (hb6.mono z5)
   have z6 := hbw6.size
   have hbx6 := hbx5.up hb6
   have HB6 := Lib.hid (HB5.out.trans (hb6.mono z45))
   clear z0 y0 y1 y2 y3 hb6
   obtain ⟨z0, y0, y1, y2, y3⟩ := id hbx6
   dsimp only at y0 y1 y2 y3
   go_wp2_with fail
   refine (KR.out w6 HB6.out).mono ?_
   rintro e w7 ⟨rfl, hb7⟩
   have hbw7 := hbw6.trans (hb7.mono z6)
   clear z0 y0 y1 y2 y3
   go_wp2_with fail
   refine (KN.out _).mono ?_
   rintro e _ ⟨rfl, rfl⟩
   go_wp2
   go_ret
   exact ⟨rfl, hbw7⟩
end

end Go.Proofs.YtaampjhdgeoicaaGreat

/- partition: of, Heuristic. -/
import Derived.Test.YtaampjhdgeoicaaMvD
import Derived.Test.YtaampjhdgeoicaaErrI
import Derived.Test.YtaampjhdgeoicaaPartF
import Derived.Test.YtaampjhdgeoicaaLmC
namespace Go.Proofs.Ytaampjhdgeoicaa
set_option linter.unusedSimpArgs false
set_option linter.unusedVariables false
open Go Go.RowKit
set_option linter.unusedVariables false

theorem erV_errV (c : Int) : erV c = errV c := rfl
def OfRet (kind : Int) (costs : List Int) (l : List Cut) (w : World) (e : Ending) (w' : World) : Prop := (∃ n cd, OfIs kind costs l n cd ∧ e = .returned (.tuple #[.int .i64 n, errV cd])) ∧ Below w.heap.size w w'

set_option maxRecDepth 100000 in
set_option maxHeartbeats 4000000 in
theorem of_any (kind : Int) (costs : List Int) (l : List Cut) (A1 A2 : Option Addr) (c1 c2 : Nat) (w : World) (h1 : IntsAt w w.heap.size A1 costs) (h2 : CutsAt w w.heap.size A2 l) (hk : kind = 1 ∨ kind = 2 ∨ kind = 3) (g : Good38 costs l) (hn : costs.length ≤ 24) :
    Calls Try.prog 49 #[.int .i64 kind, .slice A1 costs.length c1, .slice A2 l.length c2] w (OfRet kind costs l w) := by
  have h0 := chk_of_good g
  have KV := Lib.hid (fun lv A c wx (h : FactsAt wx wx.heap.size A lv) => value38_any lv A c wx h)
  have hm := g.many
  rcases hk with rfl | rfl | rfl
  · have kg := greedy_any costs l A1 A2 c1 c2 w h1 h2 (by omega)
    have e1 : greR costs l = greL costs l l.length := by unfold greR; rw [if_pos h0]
    unfold RetFs at kg
    rw [h0, e1, errV_0] at kg
    have KG := Lib.hid kg
    have HF := Lib.hid (show ∀ e w', e = .returned (.tuple #[.int .i64 (valR (greL costs l l.length)).1, errV (valR (greL costs l l.length)).2]) → Below w.heap.size w w' → OfRet 1 costs l w e w' from fun e w' he hb => ⟨⟨_, _, ⟨_, 0, .inl ⟨rfl, rfl, rfl⟩, .inr ⟨rfl, rfl, rfl⟩⟩, he⟩, hb⟩)
    obtain ⟨lv, hlv⟩ : ∃ lv, lv = greL costs l l.length := ⟨_, rfl⟩
    rw [← hlv] at KG HF
    clear hlv kg e1 h0 g h1 h2
    go_enter Try.func49, Try.ntmps49
    go_wp2_with fail
    refine KG.out.mono ?_
    rintro e w3 ⟨⟨v, rfl, A, c, rfl, _, hF⟩, hb3⟩
    have K3 := Lib.hid (KV.out lv A c w3 hF)
    obtain ⟨ev, hev⟩ : ∃ ev, ev = errV (valR lv).2 := ⟨_, rfl⟩
    obtain ⟨n, hn2⟩ : ∃ n, n = (valR lv).1 := ⟨_, rfl⟩
    rw [← hev, ← hn2] at K3 HF
    clear hev hn2 hF
    go_wp2_with fail
    refine K3.out.mono ?_
    rintro e w4 ⟨rfl, hb4⟩
    go_wp2
    refine bodyPost_ret (v := .tuple #[.int .i64 n, ev]) (by simp [results, Try.results49, go_sem]) rfl (HF.out _ _ rfl (hb3.trans (hb4.mono hb3.size)))
  · have kg := uniform_any costs l A1 A2 c1 c2 w h1 h2 (by omega)
    have e1 : uniR costs l = uniL costs l l.length := by unfold uniR; rw [if_pos h0]
    unfold RetFs at kg
    rw [h0, e1, errV_0] at kg
    have KG := Lib.hid kg
    have HF := Lib.hid (show ∀ e w', e = .returned (.tuple #[.int .i64 (valR (uniL costs l l.length)).1, errV (valR (uniL costs l l.length)).2]) → Below w.heap.size w w' → OfRet 2 costs l w e w' from fun e w' he hb => ⟨⟨_, _, ⟨_, 0, .inr (.inl ⟨rfl, rfl, rfl⟩), .inr ⟨rfl, rfl, rfl⟩⟩, he⟩, hb⟩)
    obtain ⟨lv, hlv⟩ : ∃ lv, lv = uniL costs l l.length := ⟨_, rfl⟩
    rw [← hlv] at KG HF
    clear hlv kg e1 h0 g h1 h2
    go_enter Try.func49, Try.ntmps49
    go_wp2_with fail
    refine KG.out.mono ?_
    rintro e w3 ⟨⟨v, rfl, A, c, rfl, _, hF⟩, hb3⟩
    have K3 := Lib.hid (KV.out lv A c w3 hF)
    obtain ⟨ev, hev⟩ : ∃ ev, ev = errV (valR lv).2 := ⟨_, rfl⟩
    obtain ⟨n, hn2⟩ : ∃ n, n = (valR lv).1 := ⟨_, rfl⟩
    rw [← hev, ← hn2] at K3 HF
    clear hev hn2 hF
    go_wp2_with fail
    refine K3.out.mono ?_
    rintro e w4 ⟨rfl, hb4⟩
    go_wp2
    refine bodyPost_ret (v := .tuple #[.int .i64 n, ev]) (by simp [results, Try.results49, go_sem]) rfl (HF.out _ _ rfl (hb3.trans (hb4.mono hb3.size)))
  · have KO := Lib.hid (optimal_any costs l A1 A2 c1 c2 w h1 h2 hn)
    have HE := Lib.hid (show ∀ cd e w', cd ≠ 0 → OptIs costs l [] cd → e = .returned (.tuple #[.int .i64 0, .iface 68 (.int .i64 cd)]) → Below w.heap.size w w' → OfRet 3 costs l w e w' from fun cd e w' hc ho he hb => ⟨⟨0, cd, ⟨_, cd, .inr (.inr ⟨rfl, ho⟩), .inl ⟨hc, rfl, rfl⟩⟩, by rw [errV_ne hc]; exact he⟩, hb⟩)
    have HF := Lib.hid (show ∀ lv e w', OptIs costs l lv 0 → e = .returned (.tuple #[.int .i64 (valR lv).1, errV (valR lv).2]) → Below w.heap.size w w' → OfRet 3 costs l w e w' from fun lv e w' ho he hb => ⟨⟨_, _, ⟨_, 0, .inr (.inr ⟨rfl, ho⟩), .inr ⟨rfl, rfl, rfl⟩⟩, he⟩, hb⟩)
    have H0 := Lib.hid h0
    clear h0 g h1 h2
    go_enter Try.func49, Try.ntmps49
    go_wp2_with fail
    refine KO.out.mono ?_
    rintro e w3 ⟨hp, hb3⟩
    rcases hp with ⟨hne, _⟩ | ⟨_, ⟨cd, hf, rfl⟩ | ⟨T, bx, hf, rfl, hx⟩⟩
    · exact absurd H0.out hne
    · have hcd : cd ≠ 0 := by
        obtain ⟨q, T, _, hl⟩ := hf
        cases hl <;> decide
      have HO := Lib.hid (show OptIs costs l [] cd from .inr ⟨hcd, rfl, hf⟩)
      have Hcd := Lib.hid hcd
      clear hf hcd
      go_wp2
      refine bodyPost_ret (v := .tuple #[.int .i64 0, .iface 68 (.int .i64 cd)]) (by simp [results, Try.results49, go_sem]) rfl (HE.out _ _ _ Hcd.out HO.out rfl hb3)
    · have HO := Lib.hid (show OptIs costs l (frq (xB (keptL costs l).length T) l.length) 0 from .inl ⟨rfl, T, hf, rfl⟩)
      have K3 := Lib.hid (by have := KV.out (frq (xB (keptL costs l).length T) l.length) (some ⟨bx, 0, none⟩) l.length w3 (fr_facts hx (by omega)); rw [frq_len] at this; exact this : Calls Try.prog 86 #[.slice (some ⟨bx, 0, none⟩) l.length l.length] w3 fun e w' => e = .returned (.tuple #[.int .i64 (valR (frq (xB (keptL costs l).length T) l.length)).1, errV (valR (frq (xB (keptL costs l).length T) l.length)).2]) ∧ Below w3.heap.size w3 w')
      obtain ⟨lv, hlv⟩ : ∃ lv, lv = frq (xB (keptL costs l).length T) l.length := ⟨_, rfl⟩
      rw [← hlv] at K3 HO
      have HF2 := Lib.hid (fun e w' => HF.out lv e w' HO.out)
      obtain ⟨ev, hev⟩ : ∃ ev, ev = errV (valR lv).2 := ⟨_, rfl⟩
      obtain ⟨n, hn2⟩ : ∃ n, n = (valR lv).1 := ⟨_, rfl⟩
      rw [← hev, ← hn2] at K3 HF2
      clear hev hn2 hlv hx hf
      go_wp2_with fail
      refine K3.out.mono ?_
      rintro e w4 ⟨rfl, hb4⟩
      go_wp2
      refine bodyPost_ret (v := .tuple #[.int .i64 n, ev]) (by simp [results, Try.results49, go_sem]) rfl (HF2.out _ _ rfl (hb3.trans (hb4.mono hb3.size)))

theorem cut_take {l : List Cut} {k i : Nat} (h : i < k) : cut (l.take k) i = cut l i := by
  unfold cut
  simp [List.getD, h]
theorem cuts_take {w : World} {B : Nat} {A : Option Addr} {l : List Cut} (h : CutsAt w B A l) (k : Nat) : CutsAt w B A (l.take k) :=
  ⟨by have := h.1; rw [List.length_take]; omega, fun h0 => by
    rw [List.length_take] at h0
    obtain ⟨b, off, e, hb, hc⟩ := h.2 (by omega)
    refine ⟨b, off, e, hb, fun i hi => ?_⟩
    rw [List.length_take] at hi
    rw [cut_take (by omega)]
    exact hc i (by omega)⟩
theorem infoIh : (Try.prog.info? 3).map (fun i => (i.zero, i.size, i.bytes)) = some (some (.int .i64 0), 1, 8) := by kernel_rfl
theorem undIh : Try.prog.underlying 38 = some (.slice 3) := by kernel_rfl

set_option maxRecDepth 100000 in
set_option maxHeartbeats 8000000 in
theorem heur_any (t : Tsk) (p : Lies) (s : List Int) (AS : Option Addr) (cs : Nat) (kind : Int) (w : World) (ht : TaskAt w w.heap.size t p) (hs : IntsAt w w.heap.size AS s) (h0 : chkC t = 0) (hst : stB t.vars s = true) (hk : kind = 1 ∨ kind = 2 ∨ kind = 3) (hno : t.ops.length ≤ 24) :
    Calls Try.prog 21 #[TaskV t p, .slice AS s.length cs, .int .i64 kind] w fun e w' => (∃ n cd, HeurIs t s kind n cd ∧ e = .returned (.tuple #[.int .i64 n, errV cd])) ∧ Below w.heap.size w w' := by
  have hr := right_of h0
  have K1 := Lib.hid (fun wx (h : Below w.heap.size w wx) => k_new_any t p wx (ht.up h) h0)
  have K2 := Lib.hid (fun q G wx (hF : FindAt wx G t q) (h : Below w.heap.size w wx) => lcuts_any t q G s AS cs wx hF (hs.up h) hr)
  have K3 := Lib.hid (fun wx => (by have := errIs_any 0 3 wx; rw [errV_0] at this; exact this : Calls Try.prog 48 #[.nilIface, .iface 68 (.int .i64 3)] wx fun e w' => e = .returned (.bool false) ∧ w' = wx))
  have K4 := Lib.hid (fun wx => (by have := errIs_any 3 3 wx; rw [errV_ne (by decide)] at this; exact this : Calls Try.prog 48 #[.iface 68 (.int .i64 3), .iface 68 (.int .i64 3)] wx fun e w' => e = .returned (.bool true) ∧ w' = wx))
  have K5 := Lib.hid (fun cd wx => errIs_any cd 5 wx)
  have hk1 : ¬ kind < 1 := by omega
  have hk3 : ¬ 3 < kind := by omega
  have HK := Lib.hid hk
  have HT := Lib.hid ht
  have HR := Lib.hid hr
  have Hst := Lib.hid hst
  obtain ⟨ini, hii, kz0, kz1, kz2⟩ := info_parts infoIh
  have lo := hno
  obtain ⟨av, ai, ag, ao, cv, ci, cg, co⟩ := p
  unfold TaskV at *
  dsimp only at *
  clear ht hs h0 hst hk hr hno
  go_enter Try.func21, Try.ntmps21
  go_wp2_with fail
  refine (K1.out _ (by repeat (first | exact Below.refl _ _ | refine below_dN ?_ _ | refine Below.drew ?_ | refine Below.alloc ?_ (by first | omega | (simp; done) | (simp; omega)) _ | refine Below.setCell ?_ (by first | omega | (simp; done) | (simp; omega)) _ | refine below_step (by assumption) (by first | omega | (simp; done) | (simp; omega)) ?_))).mono ?_
  rintro e w3 ⟨⟨G, q, rfl, hF⟩, hb3⟩
  have hbx0 : Boxed (w.alloc (.cells #[.slice av t.vars.length cv, .slice ai t.init.length ci, .slice ag t.goal.length cg, .slice ao t.ops.length co] 49)) w.heap.size t ⟨av, ai, ag, ao, cv, ci, cg, co⟩ := by constructor <;> simp
  have hbx := hbx0.up hb3
  have hbw : Below w.heap.size w w3 := ((Below.refl _ _).alloc (Nat.le_refl _) _).trans (hb3.mono (by simp))
  have z3 := hbw.size
  clear hbx0 hb3
  go_wp2_with fail
  refine (K2.out q G _ hF hbw).mono ?_
  rintro e w4 ⟨⟨v4, rfl, hv4⟩, hb4⟩
  have hbx4 := hbx.up hb4
  have hbw4 := hbw.trans (hb4.mono z3)
  have z4 := hbw4.size
  clear hbx hb4 hbw z3 hF
  have hcase : (lmC t s = 0) ∨ (lmC t s = 3) := by
    unfold lmC
    rw [Hst.out]
    cases hsM t.goal (rcB t s noF)
    · exact .inr rfl
    · exact .inl rfl
  rcases hcase with hc | hc
  case inr =>
    have HH := Lib.hid (show HeurIs t s kind 1125899906842624 0 from .inl ⟨hc, rfl, rfl⟩)
    rw [hc]
    have He3 : erV 3 = .iface 68 (.int .i64 3) := by unfold erV; rfl
    rw [He3]
    clear hc hv4 He3
    go_wp2_with fail
    refine (K4.out _).mono ?_
    rintro e _ ⟨rfl, rfl⟩
    go_wp2
    refine bodyPost_ret (v := .tuple #[.int .i64 1125899906842624, .nilIface]) (by simp [results, Try.results21, go_sem]) rfl ⟨⟨_, _, HH.out, by rw [errV_0]⟩, hbw4⟩
  rw [hc, erV_0]
  obtain ⟨A4, c4, rfl, ⟨_, hcap⟩, hC4⟩ := hv4
  have HC := Lib.hid (cuts_take hC4 24)
  have HG := Lib.hid (cuts_good (l := (cuL t s).take 24) HR.out hc (fun u hu => List.mem_of_mem_take hu) (by rw [List.length_take]; omega))
  have HH := Lib.hid (show ∀ n1 cd1 n cd, OfIs kind (cosN t t.ops.length) ((cuL t s).take 24) n1 cd1 → ((cd1 = 5 ∧ OfIs 1 (cosN t t.ops.length) ((cuL t s).take 24) n cd) ∨ (cd1 ≠ 5 ∧ n = n1 ∧ cd = cd1)) → HeurIs t s kind n cd from fun n1 cd1 n cd h1 h2 => .inr ⟨hc, n1, cd1, h1, h2⟩)
  have lc := hC4.len
  have hmn : min (cuL t s).length 24 = ((cuL t s).take 24).length := by rw [List.length_take]; omega
  obtain ⟨L, hL⟩ : ∃ L, L = (cuL t s).take 24 := ⟨_, rfl⟩
  rw [← hL] at HC HG HH hmn
  obtain ⟨m, hm⟩ : ∃ m, m = (cuL t s).length := ⟨_, rfl⟩
  rw [← hm] at hcap lc hmn ⊢
  have hL1 : L.length ≤ m := by omega
  have hL2 : L.length ≤ 24 := by omega
  have hmn2 : min (m : Int) 24 = (L.length : Int) := by omega
  have hmn3 : (if (m : Int) < 24 then (m : Int) else 24) = (L.length : Int) := by split <;> omega
  have hmn4 : (if (24 : Int) < (m : Int) then 24 else (m : Int)) = (L.length : Int) := by split <;> omega
  clear hL hm hC4 hc
  obtain ⟨z0, y0, y1, y2, y3⟩ := id hbx4
  dsimp only at y0 y1 y2 y3
  go_wp2_with fail
  refine (K3.out _).mono ?_
  rintro e w5 ⟨rfl, rfl⟩
  go_wp2
  go_loopw [11, 52] (fun v i wr => ∃ (k : Nat) (A' : Option Addr) (c' : Nat), k ≤ t.ops.length ∧ i = .int .i64 k ∧ v = .slice A' k c' ∧ Hid (wr.ownsRow w5.heap.size 3 1 (.slice A' k c') (cosN t k).length (ic (cosN t k))) ∧ Below w5.heap.size w5 wr) (fun _ i _ => t.ops.length - (intOf i).toNat)
  case atStart => exact ⟨0, none, 0, by omega, rfl, rfl, Lib.hid (World.ownsRow_nil _ _ _ _), Below.refl _ _⟩
  case round =>
    clear z0 y0 y1 y2 y3 hmn2 hmn3 hmn4
    obtain ⟨k, A', c', hk, rfl, rfl, hown, hbel⟩ := hrel
    obtain ⟨wt, hwt⟩ : ∃ wt : World, wt = wr := ⟨_, rfl⟩
    rw [← hwt] at hown hbel ⊢
    clear hwt
    have zt := hbel.size
    have hbt := hbw4.trans (hbel.mono z4)
    have zwt := hbt.size
    have Hl1 := Lib.hid (cosN_len t k)
    have Hl2 := Lib.hid (cosN_len t (k + 1))
    have HSc := Lib.hid (cosN_succ t k)
    by_cases hlt : k < t.ops.length
    · obtain ⟨b, o, S, cS, T, d, eo, hbo, n0, n1, n2, n3, f2, n4, e3⟩ := HT.out.ops.at2 hbt hlt
      dsimp only at eo
      subst eo
      have gb : b < wt.heap.size := by omega
      have j1 := f2.len
      have j2 := e3.len
      have k0 : (0 : Int) ≤ (k : Int) := by omega
      have k1 : (k : Int) < (t.ops.length : Int) := by omega
      obtain ⟨C, hC⟩ : ∃ C, C = (opr t.ops k).cost := ⟨_, rfl⟩
      rw [← hC] at n2 HSc
      clear f2 e3 hC
      go_wp2_with (at_builtin; refine wpList_push rfl _ _ 38 rfl w5.heap.size 3 ini (.int .i64 0) 1 8 undIh hii kz0 kz1 kz2 rfl (by decide) (by decide) (.slice A' k c') (cosN t k).length (ic (cosN t k)) rfl ((hown.out.alloc _).alloc _) (wt.heap.size + 1) 3 [.int .i64 C] rfl rfl (heap_two2 _ _ _) (one_one rfl) (by have := Hl1.out; omega) (by first | omega | (simp; omega)) (B := w5.heap.size) (W := w5) ((hbel.alloc zt _).alloc (by simp; omega) _) (Nat.le_refl _) ?_; intro v8 w8 ho8 hg8 hat8 hb8; have ho9 : w8.ownsRow w5.heap.size 3 1 v8 (cosN t (k + 1)).length (ic (cosN t (k + 1))) := (by rw [HSc.out, List.length_append]; unfold ic; rw [List.map_append]; exact ho8); obtain ⟨A8, c8, rfl⟩ := own_shapeL ho9 Hl2.out; have Ho9 := Lib.hid ho9; clear ho8 ho9 hg8 hat8)
      go_roundw
      case rel => exact ⟨k + 1, A8, c8, by omega, by go_num, rfl, Ho9, hb8⟩
      case measure => simp [intOf]; omega
    · have : k = t.ops.length := by omega
      subst this
      obtain ⟨Ac, cc, ec, _, hI⟩ := own_ints2 (own_len hown.out rfl) (by have := Hl1.out; omega)
      rw [Hl1.out] at ec
      injection ec with ec1 _ ec3
      subst ec1 ec3
      have HI := Lib.hid hI
      have KO := Lib.hid (fun kind' hk' wx (h : Below wt.heap.size wt wx) => (by have := of_any kind' (cosN t t.ops.length) L A' A4 c' c4 wx (HI.out.up h) (HC.out.up (hbel.trans (h.mono zt))) hk' HG.out (by rw [cosN_len]; exact lo); rw [cosN_len] at this; exact this : Calls Try.prog 49 #[.int .i64 kind', .slice A' t.ops.length c', .slice A4 L.length c4] wx (OfRet kind' (cosN t t.ops.length) L wx)))
      clear hI hown
      go_wp2_with fail
      refine (KO.out kind HK.out wt (Below.refl _ _)).mono ?_
      rintro e w6 ⟨⟨n1, cd1, hof, rfl⟩, hb6⟩
      have hbt6 := hbt.trans (hb6.mono zwt)
      have z6 := hbt6.size
      have H6 := Lib.hid hof
      by_cases h5 : cd1 = 5
      · subst h5
        have K6 := Lib.hid (by have := K5.out 5 w6; rw [decide_eq_true (by decide)] at this; exact this : Calls Try.prog 48 #[errV 5, .iface 68 (.int .i64 5)] w6 fun e w' => e = .returned (.bool true) ∧ w' = w6)
        have K7 := Lib.hid (KO.out 1 (.inl rfl) w6 hb6)
        obtain ⟨ev, hev⟩ : ∃ ev, ev = errV 5 := ⟨_, rfl⟩
        rw [← hev] at K6 ⊢
        clear hev hof
        go_wp2_with fail
        refine K6.out.mono ?_
        rintro e w7 ⟨rfl, rfl⟩
        go_wp2_with fail
        refine K7.out.mono ?_
        rintro e w8 ⟨⟨n, cd, hof, rfl⟩, hb8⟩
        have HF := Lib.hid (HH.out _ _ n cd H6.out (.inl ⟨rfl, hof⟩))
        have HF2 := Lib.hid (show ∃ n' cd', HeurIs t s kind n' cd' ∧ Ending.returned (.tuple #[.int .i64 n, errV cd]) = .returned (.tuple #[.int .i64 n', errV cd']) from ⟨n, cd, HF.out, rfl⟩)
        obtain ⟨ev2, hev2⟩ : ∃ ev, ev = errV cd := ⟨_, rfl⟩
        rw [← hev2] at HF2 ⊢
        clear hof hev2
        go_wp2
        refine bodyPost_ret (v := .tuple #[.int .i64 n, ev2]) (by simp [results, Try.results21, go_sem]) rfl ⟨HF2.out, hbt6.trans (hb8.mono z6)⟩
      · have K6 := Lib.hid (by have := K5.out cd1 w6; rw [decide_eq_false (fun h => h5 h.2)] at this; exact this : Calls Try.prog 48 #[errV cd1, .iface 68 (.int .i64 5)] w6 fun e w' => e = .returned (.bool false) ∧ w' = w6)
        have HF := Lib.hid (HH.out _ _ n1 cd1 H6.out (.inr ⟨h5, rfl, rfl⟩))
        have HF2 := Lib.hid (show ∃ n' cd', HeurIs t s kind n' cd' ∧ Ending.returned (.tuple #[.int .i64 n1, errV cd1]) = .returned (.tuple #[.int .i64 n', errV cd']) from ⟨n1, cd1, HF.out, rfl⟩)
        obtain ⟨ev, hev⟩ : ∃ ev, ev = errV cd1 := ⟨_, rfl⟩
        rw [← hev] at K6 HF2 ⊢
        clear hev hof h5
        go_wp2_with fail
        refine K6.out.mono ?_
        rintro e w7 ⟨rfl, rfl⟩
        go_wp2
        refine bodyPost_ret (v := .tuple #[.int .i64 n1, ev]) (by simp [results, Try.results21, go_sem]) rfl ⟨HF2.out, hbt6⟩

end Go.Proofs.Ytaampjhdgeoicaa

/- Texts laid together: VbW, VaH, VdA. -/
import Derived.Test.YtlkebhiaimijiaaGreatDoorBel
import Derived.Test.YtlkebhiaimijiaaGreatDoorNgE
import Derived.Test.YtlkebhiaimijiaaGreatDoorVbV
import Derived.Test.YtlkebhiaimijiaaGreatDoorNgJ
import Derived.Test.YtlkebhiaimijiaaGreatDoorNgK
import Derived.Test.YtlkebhiaimijiaaGreatDoorNgC
import Derived.Test.YtlkebhiaimijiaaGreatDoorNgH
import Derived.Handy
namespace Go.Proofs.YtlkebhiaimijiaaGreatDoor
set_option linter.unusedSimpArgs false
set_option linter.unusedVariables false
section
open Go Go.RowKit
set_option linter.unusedVariables false

theorem preS_snoc {vars : List Int} {es : List Eff} : ∀ (l : List Fct) (f : Fct) (A : PSet), PreS vars es (l ++ [f]) A = JoinS (PreS vars es l A) (CaseS vars es f)
 | [], f, A => rfl
 | b :: r, f, A => preS_snoc r f _
theorem efs_low {w w' : World} {B : Nat} {T : Option Addr} {l : List Eff} {q : Nat → Prop} (h : EffsAt w B T l) (k : Below B w w') (hB : B ≤ w'.heap.size) (hq : ∀ b, b < B → ¬ q b) : Efs w' q T l :=
 ⟨h.1, fun hn => by
  obtain ⟨b, off, e, hb, hc⟩ := h.2 hn
  refine ⟨b, off, e, by omega, hq b hb, fun k' hk => ?_⟩
  obtain ⟨S, c, e1, e2, e3, e4⟩ := hc k' hk
  exact ⟨S, c, (k.cell hb).trans e1, fac_low (e2.below k) hB hq, (k.cell hb).trans e3, (k.cell hb).trans e4⟩⟩
theorem tinfL : (Tryz.prog.info? 77).map (fun i => (i.zero, i.size, i.bytes)) = some (some (.slice none 0 0), 1, 24) := by kernel_rfl
theorem tundL : Tryz.prog.underlying 174 = some (.slice 77) := by kernel_rfl
theorem tmadeL (N : Nat) : madeCells #[.slice none 0 0] N = (List.replicate N (Value.slice none 0 0)).toArray := by
 apply Array.ext'
 unfold madeCells
 apply List.ext_getElem
 ·simp
 ·intro i h1 h2
  simp [Nat.mod_one]
theorem make_lists (N : Nat) (hN : N ≤ 100000) (w : World) : (Instr.makeSlice 174 (.int .i64 (N : Int)) (.int .i64 (N : Int))).run Tryz.prog w = .ok (.slice (some ⟨w.heap.size, 0, none⟩) N N) (w.alloc (.cells (List.replicate N (Value.slice none 0 0)).toArray 77)) := by
 obtain ⟨i, hi, hz, hs, hb⟩ := info_parts tinfL
 have h := run_make (P := Tryz.prog) w 174 77 i _ tundL hi hz .i64 .i64 (N : Int) (N : Int) (by omega) (Int.le_refl _) (by rw [hb]; omega) (by omega)
 rw [Int.toNat_natCast, hs, Nat.mul_one] at h
 rw [← tmadeL]
 exact h
theorem faB_each {vars : List Int} {p : List Fct} (h : faB vars p = true) {k : Nat} (hk : k < p.length) : faB vars [(fv p k, fx p k)] = true := by
 have := fa_inv h _ (fct_mem hk)
 exact faB_one this.1 this.2.1 this.2.2.1 this.2.2.2
theorem fct_take {p : List Fct} {k : Nat} (h : k < p.length) : p.take (k + 1) = p.take k ++ [(fv p k, fx p k)] := by rw [← List.take_append_getElem h, fct_get h]
/-- The lists of cases so far. -/
structure AlI (vars : List Int) (es : List Eff) (x : List Fct) (W : World) (AB i : Nat) (vs : List Value) (wr : World) : Prop where
 bel : Below W.heap.size W wr
 box : BxI wr AB 77 vs.toArray
 len : vs.length = x.length
 at_ : ∀ j, j < i → ∃ (A : Option Addr) (c : Nat) (hs : List Hd), vs[j]? = some (.slice A hs.length c) ∧ Rls wr (fun b => b = AB) A hs ∧ (∀ z, z ∈ hls hs ↔ CaseS vars es (fv x j, fx x j) z) ∧ (∀ z ∈ hls hs, faB vars z = true)
section
variable {vars : List Int} {es : List Eff} {x : List Fct} {W wr w1 : World} {AB i : Nat} {vs : List Value}
theorem AlI.up (h : AlI vars es x W AB i vs wr) (k : Below wr.heap.size wr w1) : AlI vars es x W AB i vs w1 :=
 ⟨h.bel.trans (k.mono h.bel.size), h.box.up k, h.len, fun j hj => by
  obtain ⟨A, c, hs, h1, h2, h3⟩ := h.at_ j hj
  exact ⟨A, c, hs, h1, h2.up k, h3⟩⟩
theorem AlI.put (h : AlI vars es x W AB i vs wr) (hW : W.heap.size ≤ AB) {A : Option Addr} {c : Nat} {hs : List Hd} (hi : i < x.length) (h1 : Rls wr (fun b => b = AB) A hs) (h2 : ∀ z, z ∈ hls hs ↔ CaseS vars es (fv x i, fx x i) z) (h3 : ∀ z ∈ hls hs, faB vars z = true) :
  AlI vars es x W AB (i + 1) (vs.set i (.slice A hs.length c)) (wr.setCell ⟨AB, i, none⟩ (.slice A hs.length c)) where
 bel := h.bel.setCell hW _
 box := by have := h.box.set i (.slice A hs.length c); rwa [List.setIfInBounds_toArray] at this
 len := by rw [List.length_set]; exact h.len
 at_ := fun j hj => by
  have m : Moves wr (wr.setCell ⟨AB, i, none⟩ (.slice A hs.length c)) (fun b => b = AB) (fun b => b = AB) := Moves.set (bad := fun b => b = AB) (p := ⟨AB, i, none⟩) _ rfl
  by_cases e : j = i
  ·subst e
   exact ⟨A, c, hs, by rw [List.getElem?_set_self (by rw [h.len]; exact hi)], h1.move m, h2, h3⟩
  ·obtain ⟨A', c', hs', a1, a2, a3⟩ := h.at_ j (by omega)
   exact ⟨A', c', hs', by rw [List.getElem?_set_ne (Ne.symm e)]; exact a1, a2.move m, a3⟩
end

set_option maxRecDepth 20000 in
set_option maxHeartbeats 32000000 in
theorem preimage_any (t : Tsk) (p : Lies) (k : Nat) (x : List Fct) (A : Option Addr) (c : Nat) (w : World) (ht : TaskAt w w.heap.size t p) (hc : chkC t = 0) (hk : k < t.ops.length) (hx : FactsAt w w.heap.size A x) (hfa : faB t.vars x = true) :
  Calls Tryz.prog 71 #[TaskV t p, .int .i64 k, .slice A x.length c] w fun e w' => ListRet t.vars (PreS t.vars (opr t.ops k).effs x (fun y => y = (opr t.ops k).pre)) w e w' ∧ Below w.heap.size w w' := by
 have HR := Lib.hid (right_of hc)
 have hr := HR.out
 obtain ⟨inf, hinf, iz0, iz1, iz2⟩ := info_parts ninfL
 obtain ⟨W0, hW0⟩ : ∃ W0, W0 = w.alloc (.cells #[.slice p.av t.vars.length p.cv, .slice p.ai t.init.length p.ci, .slice p.ag t.goal.length p.cg, .slice p.ao t.ops.length p.co] 26) := ⟨_, rfl⟩
 have HB0 := Lib.hid (show Below w.heap.size w W0 by rw [hW0]; exact (Below.refl _ _).alloc (Nat.le_refl _) _)
 have HX0 := Lib.hid (show BxI W0 w.heap.size 26 #[.slice p.av t.vars.length p.cv, .slice p.ai t.init.length p.ci, .slice p.ag t.goal.length p.cg, .slice p.ao t.ops.length p.co] by rw [hW0]; exact BxI.new _ _ _)
 have x0 := HX0.out.cell 0 _ rfl
 have x1 := HX0.out.cell 1 _ rfl
 have x2 := HX0.out.cell 2 _ rfl
 have x3 := HX0.out.cell 3 _ rfl
 have K1 := Lib.hid (tcheck_any t p W0 (ht.up HB0.out))
 rw [hc, erV_0] at K1
 have HT := Lib.hid ht
 have HXX := Lib.hid hx
 have HFA := Lib.hid hfa
 have hno := hr.no
 have hnv := hr.nv
 have hxl : x.length ≤ 1000 := by have := fa_len hfa; omega
 have HV1 := Lib.hid (show ∀ k, k < t.vars.length → nth t.vars k ≤ 64 from fun k hk => (hr.dom k hk).2)
 obtain ⟨o, ho⟩ : ∃ o, o = opr t.ops k := ⟨_, rfl⟩
 have HOK := Lib.hid (show OpOk t.vars o by rw [ho]; exact op_ok hr hk)
 have hel : o.effs.length ≤ 64 := by rw [ho]; exact hr.ne k hk
 have hpl : o.pre.length ≤ 64 := by rw [ho]; exact hr.np k hk
 rw [← ho]
 have HO := Lib.hid ho
 clear ht hx hfa hr ho
 go_enter Tryz.func71, Tryz.ntmps71
 unfold TaskV
 go_wp2_with fail
 rw [← hW0]
 have HW0 := Lib.hid hW0
 clear hW0
 refine K1.out.mono ?_
 rintro e w1 ⟨rfl, hb1⟩
 have HB1 := Lib.hid (show Below w.heap.size w w1 from HB0.out.trans (hb1.mono HB0.out.size))
 have HX1 := Lib.hid (HX0.out.up hb1)
 clear x0 x1 x2 x3 hb1 K1
 have x0 := HX1.out.cell 0 _ rfl
 have x3 := HX1.out.cell 3 _ rfl
 have K2 := Lib.hid (facts_any t.vars x p.av A p.cv c w1 (HT.out.vars.up HB1.out) (HXX.out.up HB1.out))
 rw [HFA.out] at K2
 have hXl := HX1.out.lt
 go_wp2_with fail
 refine K2.out.mono ?_
 rintro e w2 ⟨rfl, hb2⟩
 have HB2 := Lib.hid (show Below w.heap.size w w2 from HB1.out.trans (hb2.mono HB1.out.size))
 have HX2 := Lib.hid (HX1.out.up hb2)
 clear x0 x3 hb2 K2 hXl
 have x3 := HX2.out.cell 3 _ rfl
 obtain ⟨ob, oo, S, sc, T, tc, hoA, hob, d0, hnm, d1, d2, f2, d3, f3⟩ := HT.out.ops.at2 HB2.out hk
 rw [← HO.out] at d0 hnm d1 d2 f2 d3 f3
 have HSF := Lib.hid f2
 have HTE := Lib.hid f3
 have hz2 := HB2.out.size
 have Hmk := Lib.hid (make_lists x.length (by omega))
 have hmk := Hmk.out
 have g2 : ob < w2.heap.size := by omega
 rw [hoA] at x3
 clear f2 f3
 obtain ⟨W3, hW3⟩ : ∃ W3, W3 = w2.alloc (.cells #[.string o.name, .int .i64 o.cost, .slice S o.pre.length sc, .slice T o.effs.length tc] 63) := ⟨_, rfl⟩
 have HB3 := Lib.hid (show Below w.heap.size w W3 by rw [hW3]; exact HB2.out.alloc hz2 _)
 have HO3 := Lib.hid (show BxI W3 w2.heap.size 63 #[.string o.name, .int .i64 o.cost, .slice S o.pre.length sc, .slice T o.effs.length tc] by rw [hW3]; exact BxI.new _ _ _)
 have HX3 := Lib.hid (show BxI W3 w.heap.size 26 #[.slice p.av t.vars.length p.cv, .slice p.ai t.init.length p.ci, .slice p.ag t.goal.length p.cg, .slice p.ao t.ops.length p.co] by rw [hW3]; exact HX2.out.up ((Below.refl _ _).alloc (Nat.le_refl _) _))
 have hz3 : w2.heap.size < W3.heap.size := by rw [hW3]; simp
 obtain ⟨AB, hAB⟩ : ∃ AB, AB = w2.heap.size + 1 := ⟨_, rfl⟩
 have hAB3 : W3.heap.size ≤ AB := by rw [hAB, hW3]; simp
 have hABe : AB = W3.heap.size := by rw [hAB, hW3]; simp
 have hABw : w.heap.size < AB := by omega
 obtain ⟨W4, hW4⟩ : ∃ W4, W4 = W3.alloc (.cells (Array.replicate x.length (Value.slice none 0 0)) 77) := ⟨_, rfl⟩
 have HA4 := Lib.hid (show AlI t.vars o.effs x W3 AB 0 (List.replicate x.length (Value.slice none 0 0)) W4 by
  rw [hW4, hABe]
  exact ⟨(Below.refl _ _).alloc (Nat.le_refl _) _, by rw [List.toArray_replicate]; exact BxI.new _ _ _, by simp, fun j hj => absurd hj (by omega)⟩)
 have HAE := Lib.hid hABe
 have hW4s : AB < W4.heap.size := HA4.out.box.lt
 go_wp2_with fail
 rw [← hW3, ← hW4, ← hAB]
 have HW3 := Lib.hid hW3
 have HW4 := Lib.hid hW4
 have HAB := Lib.hid hAB
 clear hW3 hW4 hAB hABe d0 d1 d2 d3 x3 hmk g2 hob hz3
 go_loopw [51] (fun v51 wr => ∃ (i : Nat) (vs : List Value), v51 = .int .i64 i ∧ i ≤ x.length ∧ Hid (AlI t.vars o.effs x W3 AB i vs wr) ∧ AB < wr.heap.size) (fun v51 _ => x.length - (intOf v51).toNat)
 case atStart => exact ⟨0, _, rfl, by omega, HA4, hW4s⟩
 case round =>
  clear HA4 hW4s
  obtain ⟨i, vs, rfl, hi, HA, hsz⟩ := hrel
  obtain ⟨wt, rfl⟩ : ∃ wt : World, wt = wr := ⟨_, rfl⟩
  have HBt := Lib.hid (show Below w.heap.size w wt from HB3.out.trans (HA.out.bel.mono HB3.out.size))
  have HXt := Lib.hid (HX3.out.up HA.out.bel)
  have HOt := Lib.hid (HO3.out.up HA.out.bel)
  have x0 := HXt.out.cell 0 _ rfl
  have x3 := HXt.out.cell 3 _ rfl
  have o0 := HOt.out.cell 0 _ rfl
  have o1 := HOt.out.cell 1 _ rfl
  have o2 := HOt.out.cell 2 _ rfl
  have o3 := HOt.out.cell 3 _ rfl
  have hOl := HOt.out.lt
  have hXl := HXt.out.lt
  by_cases hlt : i < x.length
  ·obtain ⟨xb, xo, hxA, hxb, hxc⟩ := HXX.out.at_ hlt
   have e1 := (HBt.out.cell (p := ⟨xb, xo + i * 2, none⟩) hxb).trans (hxc i hlt).1
   have e2 := (HBt.out.cell (p := ⟨xb, xo + i * 2 + 1, none⟩) hxb).trans (hxc i hlt).2
   obtain ⟨xv, hxv⟩ : ∃ xv, xv = fv x i := ⟨_, rfl⟩
   obtain ⟨xx, hxx⟩ : ∃ xx, xx = fx x i := ⟨_, rfl⟩
   have hfe := faB_each HFA.out hlt
   rw [← hxv, ← hxx] at hfe
   rw [← hxv] at e1
   rw [← hxx] at e2
   have HXV := Lib.hid hxv
   have HXX2 := Lib.hid hxx
   have g3 : xb < wt.heap.size := by have := HBt.out.size; omega
   obtain ⟨W5, hW5⟩ : ∃ W5, W5 = wt.alloc (.cells #[.int .i64 xv, .int .i64 xx] 68) := ⟨_, rfl⟩
   have HB5 := Lib.hid (show Below wt.heap.size wt W5 by rw [hW5]; exact (Below.refl _ _).alloc (Nat.le_refl _) _)
   have HBw5 := Lib.hid (show Below w.heap.size w W5 from HBt.out.trans (HB5.out.mono HBt.out.size))
   have hz5 := HB5.out.size
   have KC := Lib.hid (cases_any t.vars o (xv, xx) (fun b => b = AB) p.av S T p.cv sc tc W5 (HT.out.vars.up HBw5.out) (efs_low HTE.out HBw5.out HBw5.out.size (fun b hb e => by omega)) (fun b hb e => by omega) HOK.out.effs hfe hnv HV1.out hel)
   rw [hxA]
   clear hxc hxv hxx hfe
   go_wp2_with fail
   rw [← hW5]
   have HW5 := Lib.hid hW5
   clear hW5 x0 x3 o0 o1 o2 o3 e1 e2 hOl hXl
   refine KC.out.mono ?_
   rintro e w6 ⟨hcs, hb6⟩
   have HB6 := Lib.hid (show Below wt.heap.size wt w6 from HB5.out.trans (hb6.mono hz5))
   have HA6 := Lib.hid (HA.out.up HB6.out)
   have HBw6 := Lib.hid (show Below w.heap.size w w6 from HBt.out.trans (HB6.out.mono HBt.out.size))
   have hz6 := HB6.out.size
   clear hb6 KC
   rcases hcs with ⟨A6, c6, os, rfl, hgr, _, hme, hfa6, hl6⟩ | ⟨rfl, hnp⟩
   ·have HR6 := Lib.hid (show Rls w6 (fun b => b = AB) A6 os from Orl.rls ⟨hgr.own, fun y hy => (hgr.fac y hy).sub (fun b _ hb => .inr hb)⟩ (by omega) (fun b off e hb => by
     subst e
     have := (hgr.own.lt b rfl).1
     omega))
    have HA7 := Lib.hid (HA6.out.put (c := c6) (by omega) hlt HR6.out (by rw [← HXV.out, ← HXX2.out]; exact hme) hfa6)
    obtain ⟨u, hu⟩ : ∃ u, vs[i]? = some u := ⟨_, List.getElem?_eq_getElem (by rw [HA.out.len]; exact hlt)⟩
    have y0 := HA6.out.box.cell i u (by rw [List.getElem?_toArray]; exact hu)
    have yf := HA6.out.box.fz i
    have hABl := HA6.out.box.lt
    clear hgr hme hfa6
    go_wp2
    go_roundw
    case rel => exact ⟨i + 1, vs.set i (.slice A6 os.length c6), by go_num, by omega, HA7, by simp; omega⟩
    case measure => simp [intOf]; omega
   ·go_wp2
    refine bodyPost_ret (v := .tuple #[.slice none 0 0, .iface 49 (.int .i64 5)]) (by simp [results, Tryz.results71, go_sem]) rfl ⟨.inr ⟨rfl, hnp⟩, HBw6.out⟩
  ·obtain rfl : i = x.length := by omega
   have KL := Lib.hid (cloneFac_any o.pre S sc wt ((HSF.out.up HBt.out)) (by omega))
   go_wp2_with fail
   refine KL.out.mono ?_
   rintro e w7 ⟨⟨A7, c7, rfl, hown7⟩, hb7⟩
   have HB7 := Lib.hid (show Below w.heap.size w w7 from HBt.out.trans (hb7.mono HBt.out.size))
   have HA7 := Lib.hid (HA.out.up hb7)
   have hz7 := hb7.size
   have hzt := HBt.out.size
   have HO7 := Lib.hid hown7
   have HABt := Lib.hid HA.out.box.lt
   clear hb7 hown7 KL x0 x3 o0 o1 o2 o3 hOl hXl HA
   obtain ⟨W8, hW8⟩ : ∃ W8, W8 = w7.alloc (.cells #[.slice A7 o.pre.length c7] 23) := ⟨_, rfl⟩
   have HB8 := Lib.hid (show Below w7.heap.size w7 W8 by rw [hW8]; exact (Below.refl _ _).alloc (Nat.le_refl _) _)
   have HX8 := Lib.hid (show BxI W8 w7.heap.size 23 #[.slice A7 o.pre.length c7] by rw [hW8]; exact BxI.new _ _ _)
   have hz8 := HB8.out.size
   have HF7 := Lib.hid (show Fac w7 (fun b => b < w.heap.size ∨ (Value.slice (some ⟨w7.heap.size, 0, none⟩) 1 1).ownBlock = some b) A7 o.pre by
    obtain ⟨A', c', e, h⟩ := own_facV HO7.out (by omega) (bad := fun b => b < w.heap.size ∨ (Value.slice (some ⟨w7.heap.size, 0, none⟩) 1 1).ownBlock = some b) (fun g hg hb => by
     have := HO7.out.lt g hg
     rcases hb with hb | hb
     ·omega
     ·have : w7.heap.size = g := by simpa [Value.ownBlock] using hb
      omega)
    injection e with e1 _ _
    rw [e1]; exact h)
   have HR8 := Lib.hid (show Orl W8 w.heap.size (fun b => b < w.heap.size ∨ (Value.slice (some ⟨w7.heap.size, 0, none⟩) 1 1).ownBlock = some b) (.slice (some ⟨w7.heap.size, 0, none⟩) 1 1) [(⟨A7, c7, o.pre⟩ : Hd)] from
    ⟨own_of_box (xs := [.slice A7 o.pre.length c7]) (R := []) HX8.out (by omega) rfl rfl (Nat.le_refl _) (by decide), fun y hy => by simp at hy; subst hy; exact HF7.out.up HB8.out⟩)
   have HA8 := Lib.hid (HA7.out.up HB8.out)
   have HAB8 := Lib.hid (show AB < W8.heap.size from HA8.out.box.lt)
   go_wp2_with fail
   rw [← hW8]
   have HW8 := Lib.hid hW8
   clear hW8
   go_loopw [15, 78] (fun v15 v78 wr => ∃ (j : Nat) (os : List Hd) (OA : Option Addr) (OC : Nat), v15 = .slice OA os.length OC ∧ v78 = .int .i64 j ∧ j ≤ x.length ∧ os.length ≤ 1024 ∧ Hid (Orl wr w.heap.size (fun b => b < w.heap.size ∨ (Value.slice OA os.length OC).ownBlock = some b) (.slice OA os.length OC) os) ∧ Hid (hls os).Nodup ∧ Hid (∀ z, z ∈ hls os ↔ PreS t.vars o.effs (x.take j) (fun y => y = o.pre) z) ∧ Hid (∀ z ∈ hls os, faB t.vars z = true) ∧ Hid (Below W8.heap.size W8 wr)) (fun _ v78 _ => x.length - (intOf v78).toNat)
   case atStart => exact ⟨0, [(⟨A7, c7, o.pre⟩ : Hd)], some ⟨w7.heap.size, 0, none⟩, 1, rfl, rfl, by omega, by simp, HR8, Lib.hid (by simp [hls]), Lib.hid (fun z => by show z ∈ [o.pre] ↔ z = o.pre; simp), Lib.hid (fun z hz => by have hz' : z ∈ [o.pre] := hz; simp at hz'; rw [hz']; exact HOK.out.pre), Lib.hid (Below.refl _ _)⟩
   case round =>
    clear HR8
    obtain ⟨j, os, OA, OC, rfl, rfl, hj, hol, HOR, HND, HME, HFF, HE⟩ := hrel
    obtain ⟨wu, rfl⟩ : ∃ wu : World, wu = wr := ⟨_, rfl⟩
    have hzu := HE.out.size
    have HBu := Lib.hid (show Below w.heap.size w wu from (HB7.out.trans (HB8.out.mono (by omega))).trans (HE.out.mono (by omega)))
    by_cases hlt2 : j < x.length
    ·obtain ⟨A9, c9, hs9, v9, r9, m9, f9⟩ := (HA8.out.up HE.out).at_ j hlt2
     have y0 := (HA8.out.up HE.out).box.cell j _ (by rw [List.getElem?_toArray]; exact v9)
     have hABl := (HA8.out.up HE.out).box.lt
     have KJ := Lib.hid (rjoin_any t.vars os hs9 OA A9 OC c9 wu (Orl.rls ⟨HOR.out.own, fun y hy => (HOR.out.fac y hy).sub (fun _ _ h => h.elim)⟩ (by omega) (fun _ _ _ h => h)) (r9.sub (fun _ _ h => h.elim)) (fun h hh => HFF.out _ (List.mem_map.2 ⟨h, hh, rfl⟩)) (fun h hh => f9 _ (List.mem_map.2 ⟨h, hh, rfl⟩)) (by omega))
     have HM9 := Lib.hid m9
     clear m9 f9 r9
     go_wp2_with fail
     refine KJ.out.mono ?_
     rintro e w9 ⟨hcs, hb9⟩
     have HE9 := Lib.hid (show Below W8.heap.size W8 w9 from HE.out.trans (hb9.mono hzu))
     have HBw9 := Lib.hid (show Below w.heap.size w w9 from HBu.out.trans (hb9.mono HBu.out.size))
     have hwu := HBu.out.size
     clear hb9 KJ y0 hABl v9
     rcases hcs with ⟨A10, c10, os10, rfl, horl, hnd, hme, hff, hl10⟩ | ⟨rfl, hnp⟩
     ·have HR10 := Lib.hid (show Orl w9 w.heap.size (fun b => b < w.heap.size ∨ (Value.slice A10 os10.length c10).ownBlock = some b) (.slice A10 os10.length c10) os10 from ⟨own_base horl.own hwu, fun y hy => (horl.fac y hy).sub (fun b _ hb => hb.elim (fun h => .inl (by omega)) .inr)⟩)
      have HM10 := Lib.hid (show ∀ z, z ∈ hls os10 ↔ PreS t.vars o.effs (x.take (j + 1)) (fun y => y = o.pre) z from fun z => by
       rw [hme z, fct_take hlt2, preS_snoc]
       constructor
       ·rintro ⟨a, ha, b, hb, h⟩; exact ⟨a, b, (HME.out a).1 ha, (HM9.out b).1 hb, h⟩
       ·rintro ⟨a, b, ha, hb, h⟩; exact ⟨a, (HME.out a).2 ha, b, (HM9.out b).2 hb, h⟩)
      have HN10 := Lib.hid hnd
      have HF10 := Lib.hid hff
      clear horl hme hnd hff
      go_wp2
      go_roundw
      case rel => exact ⟨j + 1, os10, A10, c10, rfl, by go_num, by omega, hl10, HR10, HN10, HM10, HF10, HE9⟩
      case measure => simp [intOf]; omega
     ·go_wp2
      refine bodyPost_ret (v := .tuple #[.slice none 0 0, .iface 49 (.int .i64 5)]) (by simp [results, Tryz.results71, go_sem]) rfl ⟨.inr ⟨rfl, hnp⟩, HBw9.out⟩
    ·obtain rfl : j = x.length := by omega
     have HMF := Lib.hid (show ∀ z, z ∈ hls os ↔ PreS t.vars o.effs x (fun y => y = o.pre) z from fun z => by rw [HME.out z, List.take_length])
     go_wp2
     refine bodyPost_ret (v := .tuple #[.slice OA os.length OC, .nilIface]) (by simp [results, Tryz.results71, go_sem]) rfl ⟨.inl ⟨OA, OC, os, rfl, HOR.out, HND.out, HMF.out, HFF.out, hol⟩, HBu.out⟩
end

section
open Go.RowKit
set_option linter.unusedVariables false

structure En where
 fa : Option Addr
 fc : Nat
 facts : List Fct
 dist : Int
 ord : Int
def En.none : En := ⟨.none, 0, [], 0, 0⟩
def ent (es : List En) (i : Nat) : En := es.getD i En.none
def lsE (a b : En) : Prop := a.dist < b.dist ∨ (a.dist = b.dist ∧ a.ord < b.ord)
instance (a b : En) : Decidable (lsE a b) := by unfold lsE; exact inferInstance
def leE (a b : En) : Prop := ¬ lsE b a
theorem leE_trans {a b c : En} (h1 : leE a b) (h2 : leE b c) : leE a c := by unfold leE lsE at *; omega
theorem leE_of {a b : En} (h : lsE a b) : leE a b := by unfold leE lsE at *; omega
theorem leE_dist {a b : En} (h : leE a b) : a.dist ≤ b.dist := by unfold leE lsE at *; omega
theorem ent_mem {es : List En} {i : Nat} (h : i < es.length) : ent es i ∈ es := by unfold ent; simp [List.getD, List.getElem?_eq_getElem h]
theorem mem_ent {es : List En} {e : En} (h : e ∈ es) : ∃ i, i < es.length ∧ e = ent es i := by
 obtain ⟨k, hk, rfl⟩ := List.mem_iff_getElem.1 h
 exact ⟨k, hk, by unfold ent; simp [List.getD, List.getElem?_eq_getElem hk]⟩
theorem ent_set {es : List En} {i k : Nat} {x : En} (h : i < es.length) : ent (es.set i x) k = if i = k then x else ent es k := by
 unfold ent
 simp only [List.getD, List.getElem?_set]
 by_cases e : i = k
 ·subst e; simp [h]
 ·simp [e]
/-- Two entries exchanged. -/
def swL (es : List En) (i j : Nat) : List En := (es.set i (ent es j)).set j (ent es i)
theorem sw_len (es : List En) (i j : Nat) : (swL es i j).length = es.length := by unfold swL; simp
theorem sw_at {es : List En} {i j : Nat} (hi : i < es.length) (hj : j < es.length) (k : Nat) : ent (swL es i j) k = if k = j then ent es i else if k = i then ent es j else ent es k := by
 unfold swL
 rw [ent_set (by simpa using hj), ent_set hi]
 by_cases h1 : k = j
 ·subst h1; simp
 ·by_cases h2 : k = i
  ·subst h2; simp [h1, Ne.symm h1]
  ·simp [h1, h2, Ne.symm h1, Ne.symm h2]
theorem sw_mem {es : List En} {i j : Nat} (hi : i < es.length) (hj : j < es.length) (e : En) : e ∈ swL es i j ↔ e ∈ es := by
 constructor
 ·intro h
  obtain ⟨k, hk, rfl⟩ := mem_ent h
  rw [sw_len] at hk
  rw [sw_at hi hj]
  split
  ·exact ent_mem hi
  ·split
   ·exact ent_mem hj
   ·exact ent_mem hk
 ·intro h
  obtain ⟨k, hk, rfl⟩ := mem_ent h
  by_cases h1 : k = i
  ·subst h1
   have := sw_at hi hj j
   rw [if_pos rfl] at this
   rw [← this]; exact ent_mem (by rw [sw_len]; exact hj)
  ·by_cases h2 : k = j
   ·subst h2
    have := sw_at hi hj i
    by_cases h3 : i = k
    ·subst h3; exact absurd rfl h1
    ·rw [if_neg h3, if_pos rfl] at this
     rw [← this]; exact ent_mem (by rw [sw_len]; exact hi)
   ·have := sw_at hi hj k
    rw [if_neg h2, if_neg h1] at this
    rw [← this]; exact ent_mem (by rw [sw_len]; exact hk)

def HpN (es : List En) (n : Nat) : Prop := ∀ i, 0 < i → i < n → leE (ent es ((i - 1) / 2)) (ent es i)
structure UpI (es : List En) (n j : Nat) : Prop where
 oth : ∀ i, 0 < i → i < n → i ≠ j → leE (ent es ((i - 1) / 2)) (ent es i)
 kid : 0 < j → ∀ c, 0 < c → c < n → (c - 1) / 2 = j → leE (ent es ((j - 1) / 2)) (ent es c)
structure DnI (es : List En) (n i : Nat) : Prop where
 oth : ∀ k, 0 < k → k < n → (k - 1) / 2 ≠ i → leE (ent es ((k - 1) / 2)) (ent es k)
 kid : 0 < i → ∀ c, 0 < c → c < n → (c - 1) / 2 = i → leE (ent es ((i - 1) / 2)) (ent es c)
section
variable {es : List En} {n i j : Nat}
theorem up_end0 (h : UpI es n 0) : HpN es n := fun i h0 h1 => h.oth i h0 h1 (by omega)
theorem up_end (h : UpI es n j) (hl : leE (ent es ((j - 1) / 2)) (ent es j)) : HpN es n := fun i h0 h1 => by
 by_cases e : i = j
 ·subst e; exact hl
 ·exact h.oth i h0 h1 e
theorem up_step (h : UpI es n j) (h0 : 0 < j) (hj : j < n) (hn : n ≤ es.length) (hl : lsE (ent es j) (ent es ((j - 1) / 2))) : UpI (swL es ((j - 1) / 2) j) n ((j - 1) / 2) := by
 obtain ⟨i, hi⟩ : ∃ i, i = (j - 1) / 2 := ⟨_, rfl⟩
 rw [← hi] at hl ⊢
 have hij : i < j := by omega
 have hat := sw_at (es := es) (i := i) (j := j) (by omega) (by omega)
 constructor
 ·intro k k0 k1 kne
  rw [hat, hat]
  by_cases e1 : k = j
  ·subst e1
   rw [if_pos rfl, ← hi, if_neg (by omega), if_pos rfl]
   exact leE_of hl
  ·rw [if_neg e1, if_neg kne]
   by_cases e2 : (k - 1) / 2 = j
   ·rw [if_pos e2]
    have := h.kid h0 k k0 k1 e2
    rwa [← hi] at this
   ·rw [if_neg e2]
    have h1 := h.oth k k0 k1 e1
    by_cases e3 : (k - 1) / 2 = i
    ·rw [if_pos e3]
     rw [e3] at h1
     exact leE_trans (leE_of hl) h1
    ·rw [if_neg e3]; exact h1
 ·intro i0 c c0 c1 ce
  have hp : leE (ent es ((i - 1) / 2)) (ent es i) := h.oth i i0 (by omega) (by omega)
  rw [hat, hat, if_neg (by omega), if_neg (by omega)]
  by_cases e1 : c = j
  ·rw [if_pos e1]; exact hp
  ·rw [if_neg e1, if_neg (by omega)]
   have h1 := h.oth c c0 c1 e1
   rw [ce] at h1
   exact leE_trans hp h1
theorem dn_end0 (h : DnI es n i) (hn : n ≤ 2 * i + 1) : HpN es n := fun k h0 h1 => h.oth k h0 h1 (by omega)
theorem dn_end (h : DnI es n i) (hl : leE (ent es i) (ent es j)) (hm : ∀ c, 0 < c → c < n → (c - 1) / 2 = i → leE (ent es j) (ent es c)) : HpN es n := fun k h0 h1 => by
 by_cases e : (k - 1) / 2 = i
 ·rw [e]; exact leE_trans hl (hm k h0 h1 e)
 ·exact h.oth k h0 h1 e
theorem dn_step (h : DnI es n i) (hj0 : 0 < j) (hji : (j - 1) / 2 = i) (hj : j < n) (hn : n ≤ es.length) (hl : lsE (ent es j) (ent es i)) (hm : ∀ c, 0 < c → c < n → (c - 1) / 2 = i → leE (ent es j) (ent es c)) : DnI (swL es i j) n j := by
 have hij : i < j := by omega
 have hat := sw_at (es := es) (i := i) (j := j) (by omega) (by omega)
 constructor
 ·intro k k0 k1 kne
  rw [hat, hat]
  by_cases e1 : k = j
  ·subst e1
   rw [if_pos rfl, hji, if_neg (by omega), if_pos rfl]
   exact leE_of hl
  ·rw [if_neg e1, if_neg kne]
   by_cases e2 : (k - 1) / 2 = i
   ·rw [if_pos e2, if_neg (by omega)]
    exact hm k k0 k1 e2
   ·rw [if_neg e2]
    by_cases e3 : k = i
    ·subst e3
     rw [if_pos rfl]
     exact h.kid k0 j hj0 hj hji
    ·rw [if_neg e3]; exact h.oth k k0 k1 e2
 ·intro _ c c0 c1 ce
  rw [hat, hat, hji, if_neg (by omega), if_pos rfl, if_neg (by omega), if_neg (by omega)]
  have h1 := h.oth c c0 c1 (by omega)
  rwa [ce] at h1
theorem hp_min (h : HpN es n) : ∀ i, i < n → leE (ent es 0) (ent es i) := by
 intro i
 induction i using Nat.strongRecOn with
 | ind i ih =>
  intro hi
  by_cases h0 : i = 0
  ·subst h0; unfold leE lsE; omega
  ·exact leE_trans (ih ((i - 1) / 2) (by omega) (by omega)) (h i (by omega) hi)
theorem dn_start (h : HpN es (n + 1)) (hn : n + 1 ≤ es.length) : DnI (swL es 0 n) n 0 where
 oth := fun k k0 k1 kne => by
  have hat := sw_at (es := es) (i := 0) (j := n) (by omega) (by omega)
  rw [hat, hat, if_neg (by omega), if_neg kne, if_neg (by omega), if_neg (by omega)]
  exact h k k0 (by omega)
 kid := fun h0 => absurd h0 (by omega)
theorem up_start {x : En} (h : HpN es es.length) : UpI (es ++ [x]) (es.length + 1) es.length where
 oth := fun i i0 i1 ine => by
  have e : ∀ k, k < es.length → ent (es ++ [x]) k = ent es k := fun k hk => by unfold ent; simp [List.getD, List.getElem?_append_left hk]
  rw [e _ (by omega), e _ (by omega)]
  exact h i i0 (by omega)
 kid := fun h0 c c0 c1 ce => absurd ce (by omega)
theorem hp_take (h : HpN es n) (hn : n ≤ es.length) : HpN (es.take n) n := fun i i0 i1 => by
 have e : ∀ k, k < n → ent (es.take n) k = ent es k := fun k hk => by unfold ent; simp [List.getD, List.getElem?_take, hk]
 rw [e _ (by omega), e _ i1]
 exact h i i0 i1
theorem take_last {m : Nat} (h : es.length = m + 1) : es = es.take m ++ [ent es m] := by
 have h1 : m < es.length := by omega
 have := List.take_append_getElem h1
 rw [show es.take (m + 1) = es by rw [← h]; exact List.take_length] at this
 rw [← this]
 congr 2
 ·rw [this]
 ·rw [this]; unfold ent; simp [List.getD, List.getElem?_eq_getElem h1]
end
end

section
open Go Go.RowKit
set_option linter.unusedVariables false

set_option maxRecDepth 4000 in
theorem meth_len {w : World} {H : Nat} {v : Value} (h : w.cell? ⟨H, 0, none⟩ = some v) : (Go.method 376 85 (.pointer (some ⟨H, 0, none⟩)) "Len").run Tryz.prog w = .ok (34, v) w := by
 have e : (Go.method 376 85 (.pointer (some ⟨H, 0, none⟩)) "Len").run Tryz.prog w = ((do let a ← loadVar 90 ⟨H, 0, none⟩; pure (34, a)) : Sem (FuncId × Value)).run Tryz.prog w := by kernel_rfl
 rw [e]
 go_simp
set_option maxRecDepth 4000 in
theorem meth_less {w : World} {H : Nat} {v : Value} (h : w.cell? ⟨H, 0, none⟩ = some v) : (Go.method 376 85 (.pointer (some ⟨H, 0, none⟩)) "Less").run Tryz.prog w = .ok (210, v) w := by
 have e : (Go.method 376 85 (.pointer (some ⟨H, 0, none⟩)) "Less").run Tryz.prog w = ((do let a ← loadVar 90 ⟨H, 0, none⟩; pure (210, a)) : Sem (FuncId × Value)).run Tryz.prog w := by kernel_rfl
 rw [e]
 go_simp
set_option maxRecDepth 4000 in
theorem meth_swap {w : World} {H : Nat} {v : Value} (h : w.cell? ⟨H, 0, none⟩ = some v) : (Go.method 376 85 (.pointer (some ⟨H, 0, none⟩)) "Swap").run Tryz.prog w = .ok (213, v) w := by
 have e : (Go.method 376 85 (.pointer (some ⟨H, 0, none⟩)) "Swap").run Tryz.prog w = ((do let a ← loadVar 90 ⟨H, 0, none⟩; pure (213, a)) : Sem (FuncId × Value)).run Tryz.prog w := by kernel_rfl
 rw [e]
 go_simp
theorem meth_push (w : World) (a : Value) : (Go.method 376 85 a "Push").run Tryz.prog w = .ok (212, a) w := by kernel_rfl
theorem meth_pop (w : World) (a : Value) : (Go.method 376 85 a "Pop").run Tryz.prog w = .ok (211, a) w := by kernel_rfl

def En.c (e : En) : List Value := [.slice e.fa e.facts.length e.fc, .int .i64 e.dist, .int .i64 e.ord]
def enC (es : List En) : List Value := es.flatMap En.c
theorem enC_app (a b : List En) : enC (a ++ b) = enC a ++ enC b := by unfold enC; rw [List.flatMap_append]
theorem enC_cons (e : En) (r : List En) : enC (e :: r) = [.slice e.fa e.facts.length e.fc, .int .i64 e.dist, .int .i64 e.ord] ++ enC r := rfl
theorem enC_one (e : En) : enC [e] = [.slice e.fa e.facts.length e.fc, .int .i64 e.dist, .int .i64 e.ord] := rfl
theorem enC_len : ∀ es : List En, (enC es).length = es.length * 3
 | [] => rfl
 | e :: r => by rw [enC_cons, List.length_append, enC_len r]; simp; omega
theorem enC_get : ∀ (es : List En) (i : Nat), i < es.length → (enC es)[i * 3]? = some (.slice (ent es i).fa (ent es i).facts.length (ent es i).fc) ∧ (enC es)[i * 3 + 1]? = some (.int .i64 (ent es i).dist) ∧ (enC es)[i * 3 + 2]? = some (.int .i64 (ent es i).ord)
 | e :: r, 0, _ => ⟨rfl, rfl, rfl⟩
 | e :: r, i + 1, h => by
  obtain ⟨h0, h1, h2⟩ := enC_get r i (by simpa using h)
  have g : ∀ j, (enC (e :: r))[(i + 1) * 3 + j]? = (enC r)[i * 3 + j]? := fun j => by
   rw [enC_cons, List.getElem?_append_right (by simp; omega)]
   congr 1
   simp
   omega
  exact ⟨(g 0).trans h0, (g 1).trans h1, (g 2).trans h2⟩
theorem enC_set (x : En) : ∀ (es : List En) (i : Nat), i < es.length → enC (es.set i x) = (((enC es).set (i * 3) (.slice x.fa x.facts.length x.fc)).set (i * 3 + 1) (.int .i64 x.dist)).set (i * 3 + 2) (.int .i64 x.ord)
 | e :: r, 0, _ => rfl
 | e :: r, i + 1, h => by
  rw [List.set_cons_succ, enC_cons, enC_set x r i (by simpa using h), enC_cons]
  have g : ∀ (j : Nat) (ys : List Value) (v : Value), ([Value.slice e.fa e.facts.length e.fc, .int .i64 e.dist, .int .i64 e.ord] ++ ys).set ((i + 1) * 3 + j) v = [.slice e.fa e.facts.length e.fc, .int .i64 e.dist, .int .i64 e.ord] ++ ys.set (i * 3 + j) v := fun j ys v => by
   rw [List.set_append_right _ _ (by simp; omega)]
   congr 2
   simp
   omega
  have g0 := fun ys v => g 0 ys v
  simp only [Nat.add_zero] at g0
  rw [g0, g, g]
theorem enC_take (es : List En) (i : Nat) : (enC es).take (i * 3) = enC (es.take i) := by
 induction es generalizing i with
 | nil => simp [enC]
 | cons x r ih =>
  cases i with
  | zero => simp [enC]
  | succ i =>
   rw [List.take_succ_cons, enC_cons, enC_cons, ← ih i, show (i + 1) * 3 = 3 + i * 3 by omega, List.take_append, List.take_of_length_le (by simp)]
   simp
theorem three_v {a b c : Value} (h0 : a.oneCell' = true) (h1 : b.oneCell' = true) (h2 : c.oneCell' = true) : ∀ v ∈ [a, b, c], v.oneCell' = true := by intro v hv; simp at hv; rcases hv with rfl | rfl | rfl <;> assumption
theorem own_putAt {w : World} {B n cap g i s : Nat} {e : TypeId} {xs : List Value} (h : w.ownsRow B e s (.slice (some ⟨g, 0, none⟩) n cap) n xs) (u : Value) :
  (w.setCell ⟨g, i, none⟩ u).ownsRow B e s (.slice (some ⟨g, 0, none⟩) n cap) n (xs.set i u) := by
 rcases h.2 with ⟨h0, _⟩ | ⟨b, cap', cur, h1, hb, hg, hnc, hcm, hcs, htk⟩
 ·cases h0
 ·injection h1 with h1 h2 h3
  injection h1 with h1
  injection h1 with h1 _ _
  subst h1 h3
  refine ⟨by rw [List.length_set]; exact h.1, .inr ⟨g, cap, cur.setIfInBounds i u, rfl, hb, ?_, hnc, hcm, by simpa using hcs, ?_⟩⟩
  ·simp [World.setCell, Array.getElem?_modify, hg]
  ·rw [Array.toList_setIfInBounds, List.take_set, htk]
/-- A heap of entries in memory. -/
structure HpA (w : World) (base H : Nat) (A : Option Addr) (c : Nat) (es : List En) : Prop where
 box : BxI w H 90 #[.slice A es.length c]
 own : w.ownsRow base 88 3 (.slice A es.length c) es.length (enC es)
section
variable {w w' : World} {base H : Nat} {A : Option Addr} {c : Nat} {es : List En}
theorem HpA.up (h : HpA w base H A c es) (k : Below w.heap.size w w') : HpA w' base H A c es := ⟨h.box.up k, own_below h.own k⟩
theorem HpA.ne (h : HpA w base H A c es) : some H ≠ (Value.slice A es.length c).ownBlock := own_ne_bx h.own h.box (by decide)
theorem HpA.cap (h : HpA w base H A c es) : es.length ≤ c := by
 rcases h.own.2 with ⟨h1, h2⟩ | ⟨g, cap, cur, h1, _, _, h2, _⟩
 ·omega
 ·injection h1 with _ _ h3; omega
theorem HpA.adr (h : HpA w base H A c es) (h0 : 0 < es.length) : ∃ g, A = some ⟨g, 0, none⟩ ∧ base ≤ g ∧ g < w.heap.size := by
 rcases h.own.2 with ⟨h1, h2⟩ | ⟨g, cap, cur, h1, hb, hg, _⟩
 ·omega
 ·injection h1 with h1 _ _
  exact ⟨g, h1, hb, (Array.getElem?_eq_some_iff.1 hg).1⟩
theorem HpA.reads {g : Nat} (h : HpA w base H (some ⟨g, 0, none⟩) c es) {i : Nat} (hi : i < es.length) (k : Below w.heap.size w w') : w'.cell? ⟨g, i * 3, none⟩ = some (.slice (ent es i).fa (ent es i).facts.length (ent es i).fc) ∧ w'.cell? ⟨g, i * 3 + 1, none⟩ = some (.int .i64 (ent es i).dist) ∧ w'.cell? ⟨g, i * 3 + 2, none⟩ = some (.int .i64 (ent es i).ord) := by
 obtain ⟨a, b, d⟩ := enC_get es i hi
 have h' := (h.up k).own
 exact ⟨own_cell h' a, own_cell h' b, own_cell h' d⟩
theorem HpA.put {g : Nat} (h : HpA w base H (some ⟨g, 0, none⟩) c es) {i : Nat} (hi : i < es.length) (x : En) :
  HpA (w.setCells g (i * 3) [.slice x.fa x.facts.length x.fc, .int .i64 x.dist, .int .i64 x.ord]) base H (some ⟨g, 0, none⟩) c (es.set i x) ∧ Kb (fun b => b = g) w (w.setCells g (i * 3) [.slice x.fa x.facts.length x.fc, .int .i64 x.dist, .int .i64 x.ord]) := by
 have K := kbV_sets (X := g) [.slice x.fa x.facts.length x.fc, .int .i64 x.dist, .int .i64 x.ord] (i * 3) w
 refine ⟨⟨by rw [List.length_set]; exact h.box.kb K (fun e => h.ne (by rw [e]; rfl)), ?_⟩, K⟩
 rw [List.length_set, enC_set x es i hi]
 exact own_putAt (own_putAt (own_putAt h.own _) _) _
end

set_option maxHeartbeats 4000000 in
theorem elen_any (A : Option Addr) (n c : Nat) (w : World) (hn : n ≤ 1000000000) : Calls Tryz.prog 34 #[.slice A n c] w fun e w' => e = .returned (.int .i64 n) ∧ w' = w := by
 go_enter Tryz.func34, Tryz.ntmps34
 go_wp2
 go_ret
 exact ⟨rfl, rfl⟩

set_option maxRecDepth 20000 in
set_option maxHeartbeats 8000000 in
theorem eless_any {w : World} {base H : Nat} {A : Option Addr} {c : Nat} {es : List En} (h : HpA w base H A c es) (i k : Nat) (hi : i < es.length) (hk : k < es.length) (hl : es.length ≤ 1000000000) :
  Calls Tryz.prog 210 #[.slice A es.length c, .int .i64 i, .int .i64 k] w fun e w' => e = .returned (.bool (decide (lsE (ent es i) (ent es k)))) ∧ Below w.heap.size w w' := by
 obtain ⟨g, rfl, hg1, hg2⟩ := h.adr (by omega)
 have hcap := h.cap
 obtain ⟨n, hn⟩ : ∃ n, n = es.length := ⟨_, rfl⟩
 obtain ⟨x, hx⟩ : ∃ x, x = ent es i := ⟨_, rfl⟩
 obtain ⟨y, hy⟩ : ∃ y, y = ent es k := ⟨_, rfl⟩
 obtain ⟨a0, a1, a2⟩ := h.reads hi (Below.refl _ _)
 obtain ⟨b0, b1, b2⟩ := h.reads hk (Below.refl _ _)
 rw [← hx] at a0 a1 a2 ⊢
 rw [← hy] at b0 b1 b2 ⊢
 rw [← hn] at hi hk hcap hl ⊢
 have HR := Lib.hid (show lsE x y ↔ x.dist < y.dist ∨ (x.dist = y.dist ∧ x.ord < y.ord) from Iff.rfl)
 clear h hx hy hn
 go_enter Tryz.func210, Tryz.ntmps210
 by_cases q0 : x.dist < y.dist
 ·have e0 : decide (x.dist < y.dist) = true := decide_eq_true q0
  have HF := Lib.hid (decide_eq_true (HR.out.2 (.inl q0)))
  go_wp2
  go_quiet (fail)
  go_wp2
  go_ret
  exact ⟨bool_ret HF.out.symm, by exact bel⟩
 have e0 : decide (x.dist < y.dist) = false := decide_eq_false q0
 by_cases q1 : x.dist = y.dist
 ·have HF := Lib.hid (show decide (lsE x y) = decide (x.ord < y.ord) by
   rw [Bool.eq_iff_iff, decide_eq_true_eq, decide_eq_true_eq, HR.out]; omega)
  rw [q1] at a1 q0 e0
  go_wp2
  go_quiet (fail)
  go_wp2
  go_ret
  exact ⟨bool_ret HF.out.symm, by exact bel⟩
 ·have e1 : (x.dist == y.dist) = false := by simpa using q1
  have HF := Lib.hid (decide_eq_false (show ¬ lsE x y by rw [HR.out]; omega))
  go_wp2
  go_quiet (fail)
  go_wp2
  go_ret
  exact ⟨bool_ret HF.out.symm, by exact bel⟩

set_option maxRecDepth 20000 in
set_option maxHeartbeats 8000000 in
theorem eswap_any {w : World} {base H : Nat} {A : Option Addr} {c : Nat} {es : List En} (h : HpA w base H A c es) (i k : Nat) (hi : i < es.length) (hk : k < es.length) (hl : es.length ≤ 1000000000) :
  Calls Tryz.prog 213 #[.slice A es.length c, .int .i64 i, .int .i64 k] w fun e w' => e = .returned (.tuple #[]) ∧ HpA w' base H A c (swL es i k) ∧ Kb (fun b => (Value.slice A es.length c).ownBlock = some b) w w' := by
 obtain ⟨g, rfl, hg1, hg2⟩ := h.adr (by omega)
 have hcap := h.cap
 obtain ⟨x, hx⟩ : ∃ x, x = ent es i := ⟨_, rfl⟩
 obtain ⟨y, hy⟩ : ∃ y, y = ent es k := ⟨_, rfl⟩
 have HS := Lib.hid (show ∀ w' : World, Below w.heap.size w w' → (w'.cell? ⟨g, i * 3, none⟩ = some (.slice x.fa x.facts.length x.fc) ∧ w'.cell? ⟨g, i * 3 + 1, none⟩ = some (.int .i64 x.dist) ∧ w'.cell? ⟨g, i * 3 + 2, none⟩ = some (.int .i64 x.ord)) ∧ (w'.cell? ⟨g, k * 3, none⟩ = some (.slice y.fa y.facts.length y.fc) ∧ w'.cell? ⟨g, k * 3 + 1, none⟩ = some (.int .i64 y.dist) ∧ w'.cell? ⟨g, k * 3 + 2, none⟩ = some (.int .i64 y.ord)) from fun w' kb => ⟨by rw [hx]; exact h.reads hi kb, by rw [hy]; exact h.reads hk kb⟩)
 have HH := Lib.hid h
 have HI := Lib.hid hi
 have HK := Lib.hid hk
 have HSW := Lib.hid (show (es.set i y).set k x = swL es i k by rw [hx, hy]; rfl)
 obtain ⟨n, hn⟩ : ∃ n, n = es.length := ⟨_, rfl⟩
 rw [← hn] at hi hk hcap hl ⊢
 have HN := Lib.hid hn
 clear h hx hy hn
 go_enter Tryz.func213, Tryz.ntmps213
 go_wp2_with fail
 refine wp_region_G 13 (fun w' => (w'.cell? ⟨g, i * 3, none⟩ = some (.slice x.fa x.facts.length x.fc) ∧ w'.cell? ⟨g, i * 3 + 1, none⟩ = some (.int .i64 x.dist) ∧ w'.cell? ⟨g, i * 3 + 2, none⟩ = some (.int .i64 x.ord)) ∧ (w'.cell? ⟨g, k * 3, none⟩ = some (.slice y.fa y.facts.length y.fc) ∧ w'.cell? ⟨g, k * 3 + 1, none⟩ = some (.int .i64 y.dist) ∧ w'.cell? ⟨g, k * 3 + 2, none⟩ = some (.int .i64 y.ord))) (by kernel_rfl) (HS.out _ (by exact bel)) ?_
 intro hG0
 refine wpS1 0 hG0 ?_; intro hG1; clear hG0
 refine wpS1 1 hG1 ?_; intro hG2; clear hG1
 refine wpS1 2 hG2 ?_; intro hG3; clear hG2
 refine wpS1 3 hG3 ?_; intro hG4; clear hG3
 refine wpS1 4 hG4 ?_; intro hG5; clear hG4
 refine wpS1 5 hG5 ?_; intro hG6; clear hG5
 refine wpS1 6 hG6 ?_; intro hG7; clear hG6
 refine wpS2 7 hG7 ?_; intro hG8; clear hG7
 refine wpS1 8 hG8 ?_; intro hG9; clear hG8
 refine wpS1 9 hG9 ?_; intro hG10; clear hG9
 refine wpS1 10 hG10 ?_; intro hG11; clear hG10
 refine wpS2 11 hG11 ?_; intro hG12; clear hG11
 refine wpS1 12 hG12 ?_; intro hG13; clear hG12
 refine wpAnyG_ready (rs := [13]) (by kernel_rfl) (by simp) (AllG.cons rfl hG13 (fun K hK => ?_) AllG.nil)
 (refine step_stores (by rfl) 88 _ _ (by rfl) g (i * 3) [.slice y.fa y.facts.length y.fc, .int .i64 y.dist, .int .i64 y.ord] (by rfl) (by rfl) (there_own (HH.out.up (by exact bel)).own (by simp; have := HI.out; omega)) (by kernel_rfl) (three_v rfl rfl rfl) ?_; intro wA HWA; have HQA := Lib.hid ((HH.out.up (show Below w.heap.size w w.drew by exact bel)).put HI.out y); rw [← HWA.out] at HQA)
 refine hK.out _ _ (Or.inl rfl) (fun hG14 => wpN ?_); clear hK hG13
 refine wpS1 14 hG14 ?_; intro hG15; clear hG14
 refine wpAnyG_ready (rs := [15]) (by kernel_rfl) (by simp) (AllG.cons rfl hG15 (fun K hK => ?_) AllG.nil)
 (refine step_stores (by rfl) 88 _ _ (by rfl) g (k * 3) [.slice x.fa x.facts.length x.fc, .int .i64 x.dist, .int .i64 x.ord] (by rfl) (by rfl) (there_own HQA.out.1.own (by simp; have := HK.out; omega)) (by kernel_rfl) (three_v rfl rfl rfl) ?_; intro wB HWB; have HQB := Lib.hid (HQA.out.1.put (by rw [List.length_set]; exact HK.out) x); rw [← HWB.out] at HQB)
 refine hK.out _ _ (Or.inl rfl) (fun hG16 => wpN ?_); clear hK hG15
 refine wpAnyG_done (by kernel_rfl) ?_ _; clear hG16
 go_wp2
 refine bodyPost_end (results_none rfl _ _ _) rfl ⟨rfl, by rw [← HSW.out]; exact HQB.out.1, ?_⟩
 have K1 := (Kb.refl (fun b => b = g) w).drew.trans (HQA.out.2.trans HQB.out.2)
 exact ⟨K1.os, K1.tape, K1.output, K1.size, fun b hb hn => K1.block b hb (fun e => hn (by rw [e]; rfl))⟩
end

end Go.Proofs.YtlkebhiaimijiaaGreatDoor

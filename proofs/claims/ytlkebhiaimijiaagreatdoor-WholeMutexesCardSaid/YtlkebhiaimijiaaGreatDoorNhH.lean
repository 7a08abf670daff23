/- Texts laid together: VhU, VhV. -/
import Derived.Test.YtlkebhiaimijiaaGreatDoorBel
import Derived.Test.YtlkebhiaimijiaaGreatDoorNhG
import Derived.Test.YtlkebhiaimijiaaGreatDoorNhD
namespace Go.Proofs.YtlkebhiaimijiaaGreatDoor
set_option linter.unusedSimpArgs false
set_option linter.unusedVariables false
section
open Go Go.RowKit Go.Maps
set_option linter.unusedVariables false

theorem efs_of {w : World} {A : Option Addr} {l : List Eff} (h : EffsAt w w.heap.size A l) : Efs w (fun _ => False) A l :=
 ⟨h.1, fun hn => by
  obtain ⟨b, off, e, hb, hc⟩ := h.2 hn
  refine ⟨b, off, e, hb, fun h => h, fun k hk => ?_⟩
  obtain ⟨S, c, h1, h2, h3, h4⟩ := hc k hk
  exact ⟨S, c, h1, fac_of h2, h3, h4⟩⟩
/-- A block emptied. -/
theorem kb_empty {w : World} {b : Nat} {bad : Nat → Prop} (hb : bad b) (hl : b < w.heap.size) : Kb bad w (ChangeMaps.setBlock w b (.map #[] 0)) ∧ ∀ o, (ChangeMaps.setBlock w b (.map #[] 0)).cell? ⟨b, o, none⟩ = none := by
 refine ⟨⟨rfl, rfl, rfl, by simp [ChangeMaps.setBlock], fun q hq hn => ?_⟩, fun o => ?_⟩
 ·have hn : b ≠ q := fun e => hn (by rw [← e]; exact hb)
  simp [ChangeMaps.setBlock, Array.getElem?_setIfInBounds, hn]
 ·simp [ChangeMaps.setBlock, World.cell?, hl]
/-- An operator of a task that stands whatever becomes of the bad blocks. -/
theorem rob_op {w : World} {t : Tsk} {p : Lies} {bad : Nat → Prop} (h : ∀ W, Kb bad w W → TaskAt W W.heap.size t p) {k : Nat} (hk : k < t.ops.length) : ∃ b off S c T d, p.ao = some ⟨b, off, none⟩ ∧ b < w.heap.size ∧
  w.cell? ⟨b, off + k * 4, none⟩ = some (.string (opr t.ops k).name) ∧ (opr t.ops k).name.size ≤ 140737488355328 ∧ w.cell? ⟨b, off + k * 4 + 1, none⟩ = some (.int .i64 (opr t.ops k).cost) ∧
  w.cell? ⟨b, off + k * 4 + 2, none⟩ = some (.slice S (opr t.ops k).pre.length c) ∧ w.cell? ⟨b, off + k * 4 + 3, none⟩ = some (.slice T (opr t.ops k).effs.length d) ∧
  ∀ W, Kb bad w W → Fac W (fun _ => False) S (opr t.ops k).pre ∧ Efs W (fun _ => False) T (opr t.ops k).effs := by
 obtain ⟨b, off, e, hb, S, c, T, d, h1, h2, h3, h4, h5, h6, h7⟩ := (h w (Kb.refl _ _)).ops.at_ hk
 have hnb : ¬ bad b := fun hbad => by
  obtain ⟨K, hc⟩ := kb_empty hbad hb
  obtain ⟨b', off', e', hb', S', c', T', d', g1, _⟩ := (h _ K).ops.at_ hk
  rw [e] at e'
  injection e' with e'
  injection e' with e1 e2 _
  subst e1 e2
  rw [hc] at g1; cases g1
 refine ⟨b, off, S, c, T, d, e, hb, h1, h2, h3, h4, h6, fun W K => ?_⟩
 obtain ⟨b', off', e', hb', S', c', T', d', g1, g2, g3, g4, g5, g6, g7⟩ := (h W K).ops.at_ hk
 rw [e] at e'
 injection e' with e'
 injection e' with e1 e2 _
 subst e1 e2
 rw [K.cell (p := ⟨b, _, none⟩) hb hnb, h4] at g4
 rw [K.cell (p := ⟨b, _, none⟩) hb hnb, h6] at g6
 simp only [Option.some.injEq, Value.slice.injEq] at g4 g6
 obtain ⟨rfl, _, _⟩ := g4
 obtain ⟨rfl, _, _⟩ := g6
 exact ⟨fac_of g5, efs_of g7⟩
theorem own_two {w : World} {B s B' s' n n' : Nat} {e e' : TypeId} {v v' : Value} {xs xs' : List Value} (h : w.ownsRow B e s v n xs) (h' : w.ownsRow B' e' s' v' n' xs') (hne : e ≠ e') : ∀ b, v.ownBlock = some b → ¬ v'.ownBlock = some b := fun b hb hb' => by
 obtain ⟨c, hc⟩ := own_blk h hb
 obtain ⟨c', hc'⟩ := own_blk h' hb'
 rw [hc] at hc'
 injection hc' with hc'
 injection hc' with _ hc' _
 exact hne hc'
/-- The kept ones of the first operators. -/
def kpO (t : Tsk) (H : List Fct → Bool) (i : Nat) : List Opr := (t.ops.take i).filter fun o => H o.pre
theorem kpO_yes {t : Tsk} {H : List Fct → Bool} {i : Nat} (hi : i < t.ops.length) (h : H (opr t.ops i).pre = true) : kpO t H (i + 1) = kpO t H i ++ [opr t.ops i] := by
 unfold kpO; rw [take_opr hi, List.filter_append]; simp [h]
theorem kpO_no {t : Tsk} {H : List Fct → Bool} {i : Nat} (hi : i < t.ops.length) (h : H (opr t.ops i).pre = false) : kpO t H (i + 1) = kpO t H i := by
 unfold kpO; rw [take_opr hi, List.filter_append]; simp [h]
theorem kpO_len (t : Tsk) (H : List Fct → Bool) (i : Nat) : (kpO t H i).length ≤ i := by
 unfold kpO
 exact Nat.le_trans (List.length_filter_le _ _) (by rw [List.length_take]; omega)
theorem kpO_all {t : Tsk} {H : List Fct → Bool} {i : Nat} (hi : t.ops.length ≤ i) : kpO t H i = (prnT t H).ops := by unfold kpO prnT; rw [List.take_of_length_le hi]
/-- The operators kept, under way. -/
structure PrI (w3 w5 : World) (bad : Nat → Prop) (t : Tsk) (H : List Fct → Bool) (Y i : Nat) (c0 c1 c2 : Value) (OA : Option Addr) (OC m : Nat) (xs : List Value) (KA : Option Addr) (KC : Nat) (ks : List Value) (wr : World) : Prop where
 bel : Below w5.heap.size w5 wr
 box : BxI wr Y 26 #[c0, c1, c2, .slice OA m OC]
 row : wr.ownsRow (Y + 1) 63 4 (.slice OA m OC) m xs
 kep : wr.ownsRow (Y + 1) 3 1 (.slice KA m KC) m ks
 ops : ∀ W, Kb bad w3 W → OpIs W (fun _ => False) xs (kpO t H i)
 len : m = (kpO t H i).length
section
variable {w3 w5 wr w1 w8 w9 w10 w11 : World} {bad : Nat → Prop} {t : Tsk} {H : List Fct → Bool} {Y i OC OC' m KC KC' : Nat} {c0 c1 c2 : Value} {OA OA' KA KA' : Option Addr} {xs ks : List Value}
theorem PrI.up (h : PrI w3 w5 bad t H Y i c0 c1 c2 OA OC m xs KA KC ks wr) (k : Below wr.heap.size wr w1) : PrI w3 w5 bad t H Y i c0 c1 c2 OA OC m xs KA KC ks w1 :=
 ⟨h.bel.trans (k.mono h.bel.size), h.box.up k, own_below h.row k, own_below h.kep k, h.ops, h.len⟩
theorem PrI.no (h : PrI w3 w5 bad t H Y i c0 c1 c2 OA OC m xs KA KC ks wr) (hi : i < t.ops.length) (hn : H (opr t.ops i).pre = false) : PrI w3 w5 bad t H Y (i + 1) c0 c1 c2 OA OC m xs KA KC ks wr :=
 ⟨h.bel, h.box, h.row, h.kep, by rw [kpO_no hi hn]; exact h.ops, by rw [kpO_no hi hn]; exact h.len⟩
theorem PrI.yes {S T : Option Addr} {c d : Nat} {u : Value} {o1 o2 : Obj} (h : PrI w3 w5 bad t H Y i c0 c1 c2 OA OC m xs KA KC ks wr) (hi : i < t.ops.length) (hn : H (opr t.ops i).pre = true) (hY : w5.heap.size ≤ Y) (hsz : (opr t.ops i).name.size ≤ 140737488355328)
  (hf : ∀ W, Kb bad w3 W → Fac W (fun _ => False) S (opr t.ops i).pre ∧ Efs W (fun _ => False) T (opr t.ops i).effs)
  (ho9 : w9.ownsRow (Y + 1) 63 4 (.slice OA' (m + 1) OC') (m + 1) (xs ++ [.string (opr t.ops i).name, .int .i64 (opr t.ops i).cost, .slice S (opr t.ops i).pre.length c, .slice T (opr t.ops i).effs.length d])) (hg9 : (wr.alloc o1).grownBy w9 (Value.slice OA m OC).ownBlock)
  (ho10 : w10.ownsRow (Y + 1) 3 1 (.slice KA' (m + 1) KC') (m + 1) (ks ++ [u])) (hg10 : (w9.alloc o2).grownBy w10 (Value.slice KA m KC).ownBlock) (hw11 : w11 = w10.setCell ⟨Y, 3, none⟩ (.slice OA' (m + 1) OC')) :
  PrI w3 w5 bad t H Y (i + 1) c0 c1 c2 OA' OC' (m + 1) (xs ++ [.string (opr t.ops i).name, .int .i64 (opr t.ops i).cost, .slice S (opr t.ops i).pre.length c, .slice T (opr t.ops i).effs.length d]) KA' KC' (ks ++ [u]) w11 := by
 have hu1 : Below wr.heap.size wr (wr.alloc o1) := (Below.refl _ _).alloc (Nat.le_refl _) _
 have hb1 : Below w5.heap.size w5 (wr.alloc o1) := h.bel.trans (hu1.mono h.bel.size)
 have hb9 : Below w5.heap.size w5 w9 := hb1.grown hg9 hb1.size (fun b hb => by have := (h.row.lt b hb).1; omega)
 have hu2 : Below w9.heap.size w9 (w9.alloc o2) := (Below.refl _ _).alloc (Nat.le_refl _) _
 have hb2 : Below w5.heap.size w5 (w9.alloc o2) := hb9.trans (hu2.mono hb9.size)
 have hb10 : Below w5.heap.size w5 w10 := hb2.grown hg10 hb2.size (fun b hb => by have := (h.kep.lt b hb).1; omega)
 have hkep9 : w9.ownsRow (Y + 1) 3 1 (.slice KA m KC) m ks := own_kb1 (own_below h.kep hu1) (kb_grown hg9) (fun b hb e => own_two h.kep h.row (by decide) b hb e)
 have hrow10 : w10.ownsRow (Y + 1) 63 4 (.slice OA' (m + 1) OC') (m + 1) _ := own_kb1 (own_below ho9 hu2) (kb_grown hg10) (fun b hb e => own_two ho9 hkep9 (by decide) b hb e)
 have hbox10 : BxI w10 Y 26 #[c0, c1, c2, .slice OA m OC] := ((((h.box.up hu1).grown hg9 (fun e => by have := (h.row.lt Y e.symm).1; omega))).up hu2).grown hg10 (fun e => by have := (h.kep.lt Y e.symm).1; omega)
 subst hw11
 refine ⟨hb10.setCell hY _, ?_, own_set' hrow10 (fun e => by have := (hrow10.lt Y e).1; omega), own_set' ho10 (fun e => by have := (ho10.lt Y e).1; omega), fun W K => ?_, ?_⟩
 ·exact hbox10.set 3 (.slice OA' (m + 1) OC')
 ·rw [kpO_yes hi hn]
  exact (h.ops W K).push hsz (hf W K).1 (hf W K).2
 ·rw [kpO_yes hi hn, List.length_append, ← h.len]; rfl
end
/-- What Prune returns. -/
def PrRet (t : Tsk) (e : Ending) (w' : World) : Prop :=
 ∃ (q : Lies) (M : Nat → Nat → Bool) (KA : Option Addr) (kn kc : Nat), e = .returned (.tuple #[TaskV (prnT t (hldB (rF t.vars M))) q, .slice KA kn kc, .nilIface]) ∧ TaskAt w' w'.heap.size (prnT t (hldB (rF t.vars M))) q ∧ MLst t (rF t.vars M)
end

section
open Go Go.RowKit Go.Maps
set_option linter.unusedVariables false

set_option maxRecDepth 20000 in
set_option maxHeartbeats 64000000 in
theorem prune_any (t : Tsk) (p0 : Lies) (w : World) (ht : TaskAt w w.heap.size t p0) (hck : chkC t = 0) (hnp : npV t.vars ≤ 1024) (hF : frS t.vars t.vars.length ≤ 512) :
  Calls Tryz.prog 10 #[TaskV t p0] w fun e w' => PrRet t e w' ∧ Below w.heap.size w w' := by
 obtain ⟨pav, pai, pag, pao, pcv, pci, pcg, pco⟩ := p0
 have hr := right_of hck
 have HR := Lib.hid hr
 have HD := Lib.hid hr.dom
 have hn := hr.nv
 have hno := hr.no
 obtain ⟨W0, hW0⟩ : ∃ W0, W0 = (w.alloc (.cells #[.slice pav t.vars.length pcv, .slice pai t.init.length pci, .slice pag t.goal.length pcg, .slice pao t.ops.length pco] 26)).alloc (.cells #[.slice none 0 0, .slice none 0 0, .slice none 0 0, .slice none 0 0] 26) := ⟨_, rfl⟩
 have HB0 := Lib.hid (show Below w.heap.size w W0 by rw [hW0]; exact ((Below.refl _ _).alloc (Nat.le_refl _) _).alloc (by simp) _)
 have HX0 := Lib.hid (show BxI W0 w.heap.size 26 #[.slice pav t.vars.length pcv, .slice pai t.init.length pci, .slice pag t.goal.length pcg, .slice pao t.ops.length pco] by rw [hW0]; exact (BxI.new _ _ _).up ((Below.refl _ _).alloc (Nat.le_refl _) _))
 have HR0 := Lib.hid (show BxI W0 (w.heap.size + 1) 26 #[.slice none 0 0, .slice none 0 0, .slice none 0 0, .slice none 0 0] by rw [hW0]; exact BxI.new2 _ _ _ _)
 have K1 := Lib.hid (new_any t ⟨pav, pai, pag, pao, pcv, pci, pcg, pco⟩ W0 (ht.up HB0.out) hck hnp hF)
 have K2 := Lib.hid (fun (W : World) (k : Below w.heap.size w W) => mcopied_any t ⟨pav, pai, pag, pao, pcv, pci, pcg, pco⟩ W (ht.up k) hr)
 obtain ⟨inf, hinf, iz0, iz1, iz2⟩ := info_parts qinfI
 obtain ⟨io, hio, io0, io1, io2⟩ := info_parts qinfOp
 clear ht hr hck hF
 go_enter Tryz.func10, Tryz.ntmps10
 unfold TaskV at K1 K2 ⊢
 go_wp2_with fail
 rw [← hW0]
 have HW0 := Lib.hid hW0
 clear hW0
 refine K1.out.mono ?_
 rintro e w3 ⟨⟨B, X, ⟨tav, tai, tag, tao, tcv, tci, tcg, tco⟩, FA, FC, RA, RC, g, rb, M, rfl, htb, hcp, hml, hrob⟩, hb3⟩
 have HRB := Lib.hid hrob
 have HW03 := Lib.hid hb3
 have HTB := Lib.hid htb
 have HCP := Lib.hid hcp
 have HML := Lib.hid hml
 have HB3 := Lib.hid (HB0.out.trans (hb3.mono HB0.out.size))
 have HX3 := Lib.hid (HX0.out.up hb3)
 have HR3 := Lib.hid (HR0.out.up hb3)
 have x0 := HX3.out.cell 0 (.slice pav t.vars.length pcv) rfl
 have x1 := HX3.out.cell 1 (.slice pai t.init.length pci) rfl
 have x2 := HX3.out.cell 2 (.slice pag t.goal.length pcg) rfl
 have x3 := HX3.out.cell 3 (.slice pao t.ops.length pco) rfl
 have hXl := HX3.out.lt
 have hRl := HR3.out.lt
 have K2 := Lib.hid (K2.out w3 HB3.out)
 clear htb hcp hml hb3 K1 hrob
 go_wp2_with fail
 refine K2.out.mono ?_
 rintro e w5 ⟨⟨⟨qav, qai, qag, qao, qcv, qci, qcg, qco⟩, rfl, htc⟩, hb5⟩
 have HTC := Lib.hid htc
 have HB5 := Lib.hid hb5
 clear htc hb5 K2 x0 x1 x2 x3
 have hz5 := HB5.out.size
 have h03 := HW03.out.size
 obtain ⟨Y, hY⟩ : ∃ Y, Y = w5.heap.size := ⟨_, rfl⟩
 go_upto_region 5 with fail
 have HY5 := Lib.hid (BxI.new w5 26 #[.slice qav t.vars.length qcv, .slice qai t.init.length qci, .slice qag t.goal.length qcg, .slice qao t.ops.length qco])
 obtain ⟨w5a, hw5a⟩ : ∃ w5a, w5a = w5.alloc (.cells #[.slice qav t.vars.length qcv, .slice qai t.init.length qci, .slice qag t.goal.length qcg, .slice qao t.ops.length qco] 26) := ⟨_, rfl⟩
 have HA5 := Lib.hid (show Below w5.heap.size w5 w5a by rw [hw5a]; exact (Below.refl _ _).alloc (Nat.le_refl _) _)
 rw [← hw5a] at HY5
 rw [← hw5a]
 rw [← hY] at HY5 ⊢
 have HYE := Lib.hid hY
 have hYge : w5.heap.size ≤ Y := by omega
 clear hw5a hY
 go_wp2_with (refine wpList_store1 (by rfl) 24 _ _ (by rfl) Y 3 (.slice none 0 0) (by rfl) (by rfl) (by rfl) (there_blk HY5.out (by simp)) (by kernel_rfl) rfl ?_; intro w6 HW6; have HB6 := Lib.hid (show Below w5.heap.size w5 w6 by rw [HW6.out]; exact HA5.out.setCell (p := ⟨Y, 3, none⟩) (by show w5.heap.size ≤ Y; omega) _); have HT6 := Lib.hid (HTB.out.up (HB5.out.trans (HB6.out.mono hz5))); have x3 := HT6.out.box.cell 3 (.slice tao t.ops.length tco) rfl; have hXl6 := HT6.out.box.lt)
 have HP6 := Lib.hid (show PrI w3 w5 (fun b => b < W0.heap.size) t (hldB (rF t.vars M)) Y 0 (.slice qav t.vars.length qcv) (.slice qai t.init.length qci) (.slice qag t.goal.length qcg) none 0 0 [] none 0 [] w6 from ⟨HB6.out, by rw [HW6.out]; exact HY5.out.set 3 (.slice none 0 0), World.ownsRow_nil _ _ _ _, World.ownsRow_nil _ _ _ _, fun W _ => OpIs.nil _ _, rfl⟩)
 clear x3 HY5
 go_loopw [8, 29] (fun v8 v29 wr => ∃ (i m : Nat) (OA : Option Addr) (OC : Nat) (xs : List Value) (KA : Option Addr) (KC : Nat) (ks : List Value), v8 = .slice KA m KC ∧ v29 = .int .i64 i ∧ i ≤ t.ops.length ∧ m ≤ i ∧ Hid (PrI w3 w5 (fun b => b < W0.heap.size) t (hldB (rF t.vars M)) Y i (.slice qav t.vars.length qcv) (.slice qai t.init.length qci) (.slice qag t.goal.length qcg) OA OC m xs KA KC ks wr)) (fun _ v29 _ => t.ops.length - (intOf v29).toNat)
 case atStart => exact ⟨0, 0, none, 0, [], none, 0, [], rfl, rfl, by omega, by omega, HP6⟩
 case round =>
  clear HP6 HT6
  obtain ⟨i, m, OA, OC, xs, KA, KC, ks, rfl, rfl, hi, hmi, HI⟩ := hrel
  obtain ⟨wt, rfl⟩ : ∃ wt : World, wt = wr := ⟨_, rfl⟩
  have hwt := HI.out.bel.size
  by_cases hlt : i < t.ops.length
  ·obtain ⟨b, o, S, sc, T, tc, ea, hb, d0, q0, d1, d2, d3, hrb⟩ := rob_op HRB.out hlt
   dsimp only at ea
   subst ea
   have hcap := HCP.out b o rfl i hlt _ _ _ d2
   have hk3 := HB5.out.trans (HI.out.bel.mono hz5)
   have d0 := (hk3.cell (p := ⟨b, _, none⟩) hb).trans d0
   have d1 := (hk3.cell (p := ⟨b, _, none⟩) hb).trans d1
   have d2 := (hk3.cell (p := ⟨b, _, none⟩) hb).trans d2
   have d3 := (hk3.cell (p := ⟨b, _, none⟩) hb).trans d3
   have hbl : b < wt.heap.size := by omega
   have hnp := HR.out.np i hlt
   have hpf := HR.out.pre i hlt
   have HOF := Lib.hid (fun h => HI.out.no hlt h)
   obtain ⟨oi, hoi⟩ : ∃ oi, oi = opr t.ops i := ⟨_, rfl⟩
   have HOI := Lib.hid hoi
   rw [← hoi] at d0 q0 d1 d2 d3 hrb hcap hnp hpf HOF
   obtain ⟨W7, hW7⟩ : ∃ W7, W7 = wt.alloc (.cells #[.string oi.name, .int .i64 oi.cost, .slice S oi.pre.length sc, .slice T oi.effs.length tc] 63) := ⟨_, rfl⟩
   have hb7 : Below wt.heap.size wt W7 := by rw [hW7]; exact (Below.refl _ _).alloc (Nat.le_refl _) _
   have hx7 : BxI W7 wt.heap.size 63 #[.string oi.name, .int .i64 oi.cost, .slice S oi.pre.length sc, .slice T oi.effs.length tc] := by rw [hW7]; exact BxI.new _ _ _
   have hk7 := hk3.trans (hb7.mono (Nat.le_trans hz5 hwt))
   have KM := Lib.hid (tmutex_any HD.out hn oi.pre S sc (fa_inv hpf) W7 (HTB.out.up hk7) (hrb W7 (Kb.of_below hk7)).1.at_ (by have := fa_len hpf; omega) hcap)
   have HX7 := Lib.hid hx7
   have HI7 := Lib.hid (HI.out.up hb7)
   have HQ0 := Lib.hid q0
   have HRBI := Lib.hid hrb
   clear hoi hrb q0 hpf hcap hk3 hb7 hx7 hk7
   go_wp2_with fail
   rw [← hW7]
   have HW7 := Lib.hid hW7
   clear hW7 d0 d1 d2 d3
   refine KM.out.mono ?_
   rintro e w8 ⟨rfl, hb8⟩
   have HI8 := Lib.hid (HI7.out.up hb8)
   have HX8 := Lib.hid (HX7.out.up hb8)
   obtain ⟨r, hr⟩ : ∃ r, r = hldB (rF t.vars M) oi.pre := ⟨_, rfl⟩
   rw [← hr] at HOF ⊢
   have HRR := Lib.hid hr
   clear hr hb8 KM
   cases r
   ·have HN := Lib.hid (HI8.out.no hlt (by rw [← HOI.out]; exact HRR.out.symm))
    go_wp2
    go_roundw
    case rel => exact ⟨i + 1, m, OA, OC, xs, KA, KC, ks, rfl, by go_num, by omega, by omega, HN⟩
    case measure => simp [intOf]; omega
   ·have y0 := HX8.out.cell 0 (.string oi.name) rfl
    have y1 := HX8.out.cell 1 (.int .i64 oi.cost) rfl
    have y2 := HX8.out.cell 2 (.slice S oi.pre.length sc) rfl
    have y3 := HX8.out.cell 3 (.slice T oi.effs.length tc) rfl
    have z3 := HI8.out.box.cell 3 (.slice OA m OC) rfl
    have hyl := HX8.out.lt
    have hzl := HI8.out.box.lt
    have HRW := Lib.hid HI8.out.row
    have HKP := Lib.hid HI8.out.kep
    have HYB := Lib.hid HI8.out.box
    go_wp2_with (first
     | (at_builtin; refine wpList_append_src (by rfl) _ _ 24 (by rfl) (Y + 1) 63 io (.agg #[.string ByteArray.empty, .int .i64 0, .slice none 0 0, .slice none 0 0]) 4 72 qundOp hio io0 io1 io2 rfl (by decide) (.slice OA m OC) m xs (by rfl) (by exact HRW.out.alloc _) (some ⟨w8.heap.size, 0, none⟩) 1 1 [.string oi.name, .int .i64 oi.cost, .slice S oi.pre.length sc, .slice T oi.effs.length tc] (by rfl) (src_of (heap_alloc_new w8 _) rfl (four_v rfl rfl rfl rfl)) (by unfold maxLen; omega) (by omega) (by first | omega | (simp; done) | (simp; omega)) ?_; intro v9 w9 hown9 hgrow9 hat9; obtain ⟨A9, c9, rfl⟩ := own_shape hown9; have HO9 := Lib.hid hown9; have HG9 := Lib.hid hgrow9; have HKP9 := Lib.hid (own_kb1 (own_below HKP.out (show Below w8.heap.size w8 _ by exact bel)) (kb_grown hgrow9) (fun b hb e => own_two HKP.out HRW.out (by decide) b hb e)); have HYB9 := Lib.hid ((HYB.out.up (show Below w8.heap.size w8 _ by exact bel)).grown hgrow9 (fun e => by have := (HRW.out.lt Y e.symm).1; omega)); have hz9 := hgrow9.size; clear hown9 hgrow9 hat9)
     | (at_builtin; refine wpList_append_src (by rfl) _ _ 22 (by rfl) (Y + 1) 3 inf (.int .i64 0) 1 8 qundI hinf iz0 iz1 iz2 rfl (by decide) (.slice KA m KC) m ks (by rfl) (by exact HKP9.out.alloc _) (some ⟨w9.heap.size, 0, none⟩) 1 1 [.int .i64 i] (by rfl) (src_of (heap_alloc_new w9 _) rfl (by intro u hu; simp at hu; subst hu; rfl)) (by unfold maxLen; omega) (by omega) (by first | omega | (simp at hz9 ⊢; omega)) ?_; intro v10 w10 hown10 hgrow10 hat10; obtain ⟨K10, k10, rfl⟩ := own_shape hown10; have HO10 := Lib.hid hown10; have HG10 := Lib.hid hgrow10; have HYB10 := Lib.hid ((HYB9.out.up (show Below w9.heap.size w9 _ by exact bel)).grown hgrow10 (fun e => by have := (HKP9.out.lt Y e.symm).1; omega)); clear hown10 hgrow10 hat10)
     | (refine wpList_store1 (by rfl) 24 _ _ (by rfl) Y 3 (.slice A9 (m + 1) c9) (by rfl) (by rfl) (by rfl) (there_blk HYB10.out (by simp)) (by kernel_rfl) rfl ?_; intro w11 HW11))
    have hoi := HOI.out
    subst hoi
    have HN := Lib.hid (HI8.out.yes hlt HRR.out.symm hYge HQ0.out HRBI.out HO9.out HG9.out HO10.out HG10.out HW11.out)
    go_roundw
    case rel => exact ⟨i + 1, m + 1, A9, c9, _, K10, k10, _, rfl, by go_num, by omega, by omega, HN⟩
    case measure => simp [intOf]; omega
  ·have hmm : m = (prnT t (hldB (rF t.vars M))).ops.length := by rw [← kpO_all (i := i) (by omega)]; exact HI.out.len
   have HOP := Lib.hid (show ∀ W, Kb (fun b => b < W0.heap.size) w3 W → OpIs W (fun _ => False) xs (prnT t (hldB (rF t.vars M))).ops from by rw [← kpO_all (i := i) (by omega)]; exact HI.out.ops)
   have y0 := HI.out.box.cell 0 (.slice qav t.vars.length qcv) rfl
   have y1 := HI.out.box.cell 1 (.slice qai t.init.length qci) rfl
   have y2 := HI.out.box.cell 2 (.slice qag t.goal.length qcg) rfl
   have y3 := HI.out.box.cell 3 (.slice OA m OC) rfl
   have hYl := HI.out.box.lt
   have hk3 := HB5.out.trans (HI.out.bel.mono hz5)
   have HK3 := Lib.hid hk3
   have HRt := Lib.hid (HR3.out.up hk3)
   have hR0 : w.heap.size + 1 < W0.heap.size := HR0.out.lt
   have HMM := Lib.hid hmm
   clear hk3 hmm
   go_wp2_with (refine wpList_stores (by rfl) 26 _ _ (by rfl) (w.heap.size + 1) 0 [.slice qav t.vars.length qcv, .slice qai t.init.length qci, .slice qag t.goal.length qcg, .slice OA m OC] (by rfl) (by rfl) (there_blk HRt.out (by simp)) (by kernel_rfl) (four_v rfl rfl rfl rfl) ?_; intro wy HWY)
   have HYX := HRt.out.setAll (vs := [.slice qav t.vars.length qcv, .slice qai t.init.length qci, .slice qag t.goal.length qcg, .slice OA m OC]) rfl
   have KY := kb_sets (X := w.heap.size + 1) [.slice qav t.vars.length qcv, .slice qai t.init.length qci, .slice qag t.goal.length qcg, .slice OA m OC] 0 wt
   rw [← HWY.out] at HYX KY
   have z0 := HYX.cell 0 _ rfl
   have z1 := HYX.cell 1 _ rfl
   have z2 := HYX.cell 2 _ rfl
   have z3 := HYX.cell 3 _ rfl
   have HB := Lib.hid (show Below w.heap.size w wy by rw [HWY.out]; exact below_sets _ _ _ (HB3.out.trans (HK3.out.mono HB3.out.size)) (by omega))
   have hfin : PrRet t (.returned (.tuple #[.agg #[.slice qav t.vars.length qcv, .slice qai t.init.length qci, .slice qag t.goal.length qcg, .slice OA m OC], .slice KA m KC, .nilIface])) wy := by
    have K5 : Kb (fun b => b < w3.heap.size) w5 wy := ((Kb.of_below (bad := fun _ => False) HI.out.bel).mono (fun _ _ h => h.elim)).trans (KY.mono (fun b _ e => by have e : b = w.heap.size + 1 := e; show b < w3.heap.size; omega))
    have K3 : Kb (fun b => b < W0.heap.size) w3 wy := ((Kb.of_below (bad := fun _ => False) HK3.out).mono (fun _ _ h => h.elim)).trans (KY.mono (fun b _ e => by have e : b = w.heap.size + 1 := e; show b < W0.heap.size; omega))
    have hrow := own_kb1 HI.out.row KY (fun b hb e => by have h1 := (HI.out.row.lt b hb).1; have e : b = w.heap.size + 1 := e; omega)
    have hmm := HMM.out
    subst hmm
    have hta := (HTC.out wy K5).1
    have hno2 : (prnT t (hldB (rF t.vars M))).ops.length ≤ t.ops.length := List.length_filter_le _ _
    obtain ⟨A8, c8, e8, _, ho8⟩ := (HOP.out wy K3).ops hrow (by omega)
    injection e8 with e8 _ e9
    subst e8 e9
    exact ⟨⟨qav, qai, qag, OA, qcv, qci, qcg, OC⟩, M, KA, _, KC, rfl, ⟨hta.vars, hta.init, hta.goal, ho8⟩, HML.out⟩
   have HFIN := Lib.hid hfin
   clear hfin HYX KY
   refine bodyPost_ret (v := .tuple #[.agg #[.slice qav t.vars.length qcv, .slice qai t.init.length qci, .slice qag t.goal.length qcg, .slice OA m OC], .slice KA m KC, .nilIface]) (by simp [results, Tryz.results10, go_sem, ↓IntWalk.iteOmega, *]) rfl ⟨HFIN.out, HB.out⟩
end

end Go.Proofs.YtlkebhiaimijiaaGreatDoor

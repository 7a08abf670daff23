/- certificate.nogood, walked. -/
import Derived.Test.YtlkebhiaimijiaaGreatDoorVfC
namespace Go.Proofs.YtlkebhiaimijiaaGreatDoor
set_option linter.unusedSimpArgs false
set_option linter.unusedVariables false
open Go Go.RowKit
set_option linter.unusedVariables false

theorem cutp_any (s : ByteArray) (p : ByteArray) (w : World) : Calls Tryz.prog 83 #[.string s, .string p] w fun e w' => (∃ (r : ByteArray) (k : Bool), e = .returned (.tuple #[.string r, .bool k]) ∧ r.size ≤ s.size) ∧ w' = w := by
  refine (Tryz.strings_CutPrefix s p w).mono ?_
  rintro e w' ⟨rfl, rfl⟩
  refine ⟨⟨_, _, rfl, ?_⟩, rfl⟩
  have hl : s.data.toList.length = s.size := by rw [Array.length_toList]; rfl
  show (Lib.trimPrefix s.data.toList _).toArray.size ≤ _
  rw [List.size_toArray]
  unfold Lib.trimPrefix
  split
  · rw [List.length_drop]; omega
  · omega
/-- What nogood returns. -/
def NgRet (w : World) (e : Ending) (w' : World) : Prop := ∃ (n : Ngd) (k : Bool), e = .returned (.tuple #[.agg #[.slice n.a n.l.length n.c, .int .i64 n.d], .bool k]) ∧ n.l.length ≤ 1000000 ∧ Fac w' (fun b => b < w.heap.size) n.a n.l
theorem ng_bad (w w' : World) (k : Bool) : NgRet w (.returned (.tuple #[.agg #[.slice none 0 0, .int .i64 0], .bool k])) w' := ⟨⟨none, 0, [], 0⟩, k, rfl, by simp, fac_nil _ _ _⟩
/-- The row of facts and the box that are made. -/
structure NgI (w : World) (RB OB : Nat) (d : Int) (l : List Fct) (FA : Option Addr) (FC : Nat) (wr : World) : Prop where
  bel : Below w.heap.size w wr
  rbx : BxI wr RB 97 #[.slice none 0 0, .int .i64 0]
  obx : BxI wr OB 97 #[.slice FA l.length FC, .int .i64 d]
  own : wr.ownsRow w.heap.size 68 2 (.slice FA l.length FC) l.length (fcs l)
section
variable {w wr w1 : World} {RB OB : Nat} {d : Int} {l : List Fct} {FA : Option Addr} {FC : Nat}
theorem NgI.up (h : NgI w RB OB d l FA FC wr) (k : Below wr.heap.size wr w1) : NgI w RB OB d l FA FC w1 := ⟨h.bel.trans (k.mono h.bel.size), h.rbx.up k, h.obx.up k, own_below h.own k⟩
end
theorem ret_box {w : World} {R : Nat} {T : TypeId} {x y u v : Value} (h : BxI w R T #[x, y]) : BxI ((w.setCell ⟨R, 0, none⟩ u).setCell ⟨R, 1, none⟩ v) R T #[u, v] := (h.set 0 u).set 1 v
theorem NgI.push {w wr w1 w2 : World} {RB OB : Nat} {d : Int} {l : List Fct} {FA FA' : Option Addr} {FC FC' : Nat} {x : Fct} (h : NgI w RB OB d l FA FC wr) (hRO : RB ≠ OB) (hR : w.heap.size ≤ RB) (hO : w.heap.size ≤ OB) (u : Below wr.heap.size wr w1)
    (ho : w2.ownsRow w.heap.size 68 2 (.slice FA' (l.length + 1) FC') (l.length + 1) (fcs l ++ [.int .i64 x.1, .int .i64 x.2])) (hg : w1.grownBy w2 (Value.slice FA l.length FC).ownBlock)
    (hat : (Value.slice FA' (l.length + 1) FC').ownBlock = (Value.slice FA l.length FC).ownBlock ∨ (Value.slice FA' (l.length + 1) FC').ownBlock = some w1.heap.size) :
    NgI w RB OB d (l ++ [x]) FA' FC' (w2.setCell ⟨OB, 0, none⟩ (.slice FA' (l.length + 1) FC')) := by
  have h1 := h.up u
  have o2 : BxI w2 OB 97 #[.slice FA l.length FC, .int .i64 d] := BxI.grown h1.obx hg (own_ne_bx h1.own h1.obx (by decide))
  have r2 : BxI w2 RB 97 #[.slice none 0 0, .int .i64 0] := BxI.grown h1.rbx hg (own_ne_bx h1.own h1.rbx (by decide))
  refine ⟨(h1.bel.grown hg h1.bel.size (fun b hb => (h1.own.lt b hb).1)).setCell hO _, r2.far hRO _, ?_, ?_⟩
  · rw [List.length_append]; exact o2.set 0 _
  · rw [List.length_append, fcs_app]
    refine own_set' ho fun e => ?_
    have e' : (Value.slice FA' (l.length + 1) FC').ownBlock = some OB := e
    rcases hat with e2 | e2
    · rw [e2] at e'; exact own_ne_bx h1.own h1.obx (by decide) e'.symm
    · rw [e2] at e'; injection e' with e'; have := h1.obx.lt; omega

set_option maxRecDepth 20000 in
set_option maxHeartbeats 16000000 in
theorem nogood_any (s : ByteArray) (w : World) (hs : s.size ≤ 900000) (hE : EnvM w) : Calls Tryz.prog 49 #[.string s] w fun e w' => NgRet w e w' ∧ Below w.heap.size w w' := by
  obtain ⟨inf, hi, iz0, iz1, iz2⟩ := info_parts ninfF
  obtain ⟨W0, hW0⟩ : ∃ W0, W0 = w.alloc (.cells #[.slice none 0 0, .int .i64 0] 97) := ⟨_, rfl⟩
  have HB0 := Lib.hid (show Below w.heap.size w W0 by rw [hW0]; exact (Below.refl _ _).alloc (Nat.le_refl _) _)
  have HR0 := Lib.hid (show BxI W0 w.heap.size 97 #[.slice none 0 0, .int .i64 0] by rw [hW0]; exact BxI.new _ _ _)
  have HE := Lib.hid hE
  clear hE
  go_enter Tryz.func49, Tryz.ntmps49
  go_wp2_with fail
  rw [← hW0]
  have HW0 := Lib.hid hW0
  clear hW0
  refine (cutp_any s _ W0).mono ?_
  rintro e w1 ⟨⟨r, k1, rfl, hr⟩, e1⟩
  subst e1
  go_wp2_with fail
  refine (cutg_any r 58 w1 (by omega) (HE.out.up HB0.out)).mono ?_
  rintro e w2 ⟨⟨a, t, k2, rfl, ha, ht⟩, hb2⟩
  have HB2 := Lib.hid (show Below w.heap.size w w2 from HB0.out.trans (hb2.mono HB0.out.size))
  have HR2 := Lib.hid (HR0.out.up hb2)
  clear hb2
  go_wp2_with fail
  refine (number_any a w2 (by omega)).mono ?_
  rintro e w3 ⟨⟨d, k3, rfl⟩, hb3⟩
  have HB3 := Lib.hid (show Below w.heap.size w w3 from HB2.out.trans (hb3.mono HB2.out.size))
  have HR3 := Lib.hid (HR2.out.up hb3)
  clear hb3
  have r0 := HR3.out.cell 0 (.slice none 0 0) rfl
  have r1 := HR3.out.cell 1 (.int .i64 0) rfl
  have rf0 := HR3.out.fz 0
  have rf1 := HR3.out.fz 1
  have hRl := HR3.out.lt
  have HZ := Lib.hid (ret_cells (u := .slice none 0 0) (v := .int .i64 0) HR3.out)
  have HBZ := Lib.hid (show Below w.heap.size w ((w3.setCell ⟨w.heap.size, 0, none⟩ (.slice none 0 0)).setCell ⟨w.heap.size, 1, none⟩ (.int .i64 0)) from ret_below HB3.out (Nat.le_refl _))
  by_cases hk : k1 = true ∧ k2 = true ∧ k3 = true
  · obtain ⟨rfl, rfl, rfl⟩ := hk
    obtain ⟨OB, hOB⟩ : ∃ OB, OB = w3.heap.size := ⟨_, rfl⟩
    obtain ⟨W4, hW4⟩ : ∃ W4, W4 = w3.alloc (.cells #[.slice none 0 0, .int .i64 d] 97) := ⟨_, rfl⟩
    have HB4 := Lib.hid (show Below w3.heap.size w3 W4 by rw [hW4]; exact (Below.refl _ _).alloc (Nat.le_refl _) _)
    have HI4 := Lib.hid (show NgI w w.heap.size OB d [] none 0 W4 from ⟨HB3.out.trans (HB4.out.mono HB3.out.size), HR3.out.up HB4.out, by rw [hW4, hOB]; exact BxI.new _ _ _, World.ownsRow_nil _ _ _ _⟩)
    cases hu : (t.toList == [])
    · have h0 : 0 < t.size := by
        refine Nat.pos_of_ne_zero fun e => ?_
        have : t.toList = [] := by
          have h9 : t = ⟨#[]⟩ := ByteArray.ext (Array.eq_empty_of_size_eq_zero e)
          rw [h9, Lib.toList_data]
        rw [this] at hu; cases hu
      have HUN := Lib.hid hu
      by_cases hq : ((t[0]'h0).toNat : Int) = 32
      · have e1 : (((t[0]'h0).toNat : Int) != 32) = false := by simp [hq]
        have hsx : (t.extract 1 t.size).size ≤ 900000 := by simp; omega
        have KS := Lib.hid (splitg_any (t.extract 1 t.size) 32 W4 (by omega) ((HE.out.up HB3.out).up HB4.out))
        clear hq
        go_wp2_with fail
        rw [← hW4, ← hOB]
        have HW4 := Lib.hid hW4
        have HOB := Lib.hid hOB
        clear hW4 hOB r0 r1 rf0 rf1 hRl e1 hu
        refine KS.out.mono ?_
        rintro e w5 ⟨⟨L, rfl, hL0, hL1, hLx, hLb⟩, hb5⟩
        have HI5 := Lib.hid (HI4.out.up hb5)
        have HLX := Lib.hid hLx
        have HSB := Lib.hid hLb
        have hL9 : L.length ≤ 900001 := by omega
        obtain ⟨SB, hSB⟩ : ∃ SB, SB = W4.heap.size := ⟨_, rfl⟩
        have hSO : OB < SB := by rw [hSB]; exact HI4.out.obx.lt
        have hRO : w.heap.size < OB := by rw [HOB.out]; exact HR3.out.lt
        rw [← hSB] at HSB ⊢
        have HSBE := Lib.hid hSB
        clear hb5 hLx hLb KS hSB hL0 hL1
        go_wp2_with fail
        go_loopw [61] (fun v61 wr => ∃ (j : Nat) (l : List Fct) (FA : Option Addr) (FC : Nat), v61 = .int .i64 j ∧ j ≤ L.length ∧ l.length ≤ j ∧ Hid (NgI w w.heap.size OB d l FA FC wr) ∧ Hid (BxI wr SB 9 (L.map Value.string).toArray)) (fun v61 _ => L.length - (intOf v61).toNat)
        case atStart => exact ⟨0, [], none, 0, rfl, by omega, by simp, HI5, HSB⟩
        case round =>
          clear HI5 HSB
          obtain ⟨j, l, FA, FC, rfl, hj, hlj, HI, HSB⟩ := hrel
          obtain ⟨wt, rfl⟩ : ∃ wt : World, wt = wr := ⟨_, rfl⟩
          by_cases hlt : j < L.length
          · obtain ⟨x, hx⟩ : ∃ x, x = L[j] := ⟨_, rfl⟩
            have d1 := HSB.out.cell j (.string x) (by rw [hx]; simp [hlt])
            have hxs : x.size ≤ 900000 := by have := HLX.out x (by rw [hx]; exact List.getElem_mem hlt); omega
            have hSl := HSB.out.lt
            have HEt := Lib.hid (HE.out.up HI.out.bel)
            clear hx
            go_wp2_with fail
            refine (cutg_any x 61 wt (by omega) HEt.out).mono ?_
            rintro e w6 ⟨⟨a2, b2, c1, rfl, ha2, hb2⟩, hb6⟩
            have HI6 := Lib.hid (HI.out.up hb6)
            have HS6 := Lib.hid (HSB.out.up hb6)
            clear hb6 d1 hSl
            go_wp2_with fail
            refine (number_any a2 w6 (by omega)).mono ?_
            rintro e w7 ⟨⟨v, c2, rfl⟩, hb7⟩
            have HI7 := Lib.hid (HI6.out.up hb7)
            have HS7 := Lib.hid (HS6.out.up hb7)
            clear hb7
            go_wp2_with fail
            refine (number_any b2 w7 (by omega)).mono ?_
            rintro e w8 ⟨⟨y, c3, rfl⟩, hb8⟩
            have HI8 := Lib.hid (HI7.out.up hb8)
            have HS8 := Lib.hid (HS7.out.up hb8)
            clear hb8 ha2 hb2
            by_cases hk : c1 = true ∧ c2 = true ∧ c3 = true
            · obtain ⟨rfl, rfl, rfl⟩ := hk
              have y0 := HI8.out.obx.cell 0 (.slice FA l.length FC) rfl
              have hOl := HI8.out.obx.lt
              have hbw := HI8.out.bel.size
              go_wp2_with (at_builtin; refine wpList_append_src (by rfl) _ _ 23 (by rfl) w.heap.size 68 inf (.agg #[.int .i64 0, .int .i64 0]) 2 16 nundF hi iz0 iz1 iz2 rfl (by decide) (.slice FA l.length FC) l.length (fcs l) (by rfl) (by exact HI8.out.own.alloc _) (some ⟨w8.heap.size, 0, none⟩) 1 1 [.int .i64 v, .int .i64 y] (by rfl) (src_of (heap_alloc_new w8 _) rfl (by intro u hu; simp at hu; rcases hu with rfl | rfl <;> rfl)) (by unfold maxLen; omega) (by omega) (by first | omega | (simp; done) | (simp; omega)) ?_; intro v9 w9 hown9 hgrow9 hat9; obtain ⟨A9, c9, rfl⟩ := own_shape hown9; have HO9 := Lib.hid hown9; have HG9 := Lib.hid hgrow9; have HA9 := Lib.hid hat9; have HU9 := Lib.hid (show Below w8.heap.size w8 (w8.alloc (.cells #[.int .i64 v, .int .i64 y] 68)) from (Below.refl _ _).alloc (Nat.le_refl _) _); have HO99 := Lib.hid (show BxI w9 OB 97 #[.slice FA l.length FC, .int .i64 d] from BxI.grown (HI8.out.obx.up HU9.out) HG9.out (own_ne_bx (own_below HI8.out.own HU9.out) (HI8.out.obx.up HU9.out) (by decide))); have k0 := HO99.out.cell 0 (.slice FA l.length FC) rfl; have kf := HO99.out.fz 0; have hO9 := HO99.out.lt; clear hown9 hgrow9 hat9)
              have HI9 := Lib.hid (HI8.out.push (x := (v, y)) (by omega) (Nat.le_refl _) (by omega) HU9.out HO9.out HG9.out HA9.out)
              have HS9 := Lib.hid (show BxI (w9.setCell ⟨OB, 0, none⟩ (.slice A9 (l.length + 1) c9)) SB 9 (L.map Value.string).toArray from (BxI.grown (HS8.out.up HU9.out) HG9.out (own_ne_bx (own_below HI8.out.own HU9.out) (HS8.out.up HU9.out) (by decide))).far (by show SB ≠ OB; omega) _)
              have Hll : (l ++ [((v, y) : Fct)]).length = l.length + 1 := by simp
              go_roundw
              case rel => exact ⟨j + 1, l ++ [((v, y) : Fct)], A9, c9, by go_num, by omega, by omega, HI9, HS9⟩
              case measure => simp [intOf]; omega
            · have HF := Lib.hid hk
              have r0 := HI8.out.rbx.cell 0 (.slice none 0 0) rfl
              have r1 := HI8.out.rbx.cell 1 (.int .i64 0) rfl
              have rf0 := HI8.out.rbx.fz 0
              have rf1 := HI8.out.rbx.fz 1
              have hRl := HI8.out.rbx.lt
              have HZ2 := Lib.hid (ret_cells (u := .slice none 0 0) (v := .int .i64 0) HI8.out.rbx)
              have HBZ2 := Lib.hid (show Below w.heap.size w ((w8.setCell ⟨w.heap.size, 0, none⟩ (.slice none 0 0)).setCell ⟨w.heap.size, 1, none⟩ (.int .i64 0)) from ret_below HI8.out.bel (Nat.le_refl _))
              clear hk
              cases c1
              · go_wp2
                have z0 := HZ2.out.1
                have z1 := HZ2.out.2
                refine bodyPost_ret (v := .tuple #[.agg #[.slice none 0 0, .int .i64 0], .bool false]) (by simp [results, Tryz.results49, go_sem, z0, z1]) rfl ⟨ng_bad _ _ _, HBZ2.out⟩
              · cases c2
                · go_wp2
                  have z0 := HZ2.out.1
                  have z1 := HZ2.out.2
                  refine bodyPost_ret (v := .tuple #[.agg #[.slice none 0 0, .int .i64 0], .bool false]) (by simp [results, Tryz.results49, go_sem, z0, z1]) rfl ⟨ng_bad _ _ _, HBZ2.out⟩
                · cases c3
                  · go_wp2
                    have z0 := HZ2.out.1
                    have z1 := HZ2.out.2
                    refine bodyPost_ret (v := .tuple #[.agg #[.slice none 0 0, .int .i64 0], .bool false]) (by simp [results, Tryz.results49, go_sem, z0, z1]) rfl ⟨ng_bad _ _ _, HBZ2.out⟩
                  · exact absurd ⟨rfl, rfl, rfl⟩ HF.out
          · have y0 := HI.out.obx.cell 0 (.slice FA l.length FC) rfl
            have y1 := HI.out.obx.cell 1 (.int .i64 d) rfl
            have hOl := HI.out.obx.lt
            have r0 := HI.out.rbx.cell 0 (.slice none 0 0) rfl
            have r1 := HI.out.rbx.cell 1 (.int .i64 0) rfl
            have rf0 := HI.out.rbx.fz 0
            have rf1 := HI.out.rbx.fz 1
            have hRl := HI.out.rbx.lt
            have HZ2 := Lib.hid (ret_cells (u := .slice FA l.length FC) (v := .int .i64 d) HI.out.rbx)
            have HBZ2 := Lib.hid (show Below w.heap.size w ((wt.setCell ⟨w.heap.size, 0, none⟩ (.slice FA l.length FC)).setCell ⟨w.heap.size, 1, none⟩ (.int .i64 d)) from ret_below HI.out.bel (Nat.le_refl _))
            have HNE := Lib.hid (show (Value.slice FA l.length FC).ownBlock ≠ some w.heap.size from fun e => own_ne_bx HI.out.own HI.out.rbx (by decide) e.symm)
            have HFA := Lib.hid (show Fac ((wt.setCell ⟨w.heap.size, 0, none⟩ (.slice FA l.length FC)).setCell ⟨w.heap.size, 1, none⟩ (.int .i64 d)) (fun b => b < w.heap.size) FA l by
              obtain ⟨A', c', e, h⟩ := own_facV (own_set' (p := ⟨w.heap.size, 1, none⟩) (u := .int .i64 d) (own_set' (p := ⟨w.heap.size, 0, none⟩) (u := .slice FA l.length FC) HI.out.own HNE.out) HNE.out) (by omega) (bad := fun b => b < w.heap.size) (fun g hg hb => by have := (HI.out.own.lt g hg).1; omega)
              injection e with e1 _ _
              cases e1
              exact h)
            go_wp2
            have z0 := HZ2.out.1
            have z1 := HZ2.out.2
            refine bodyPost_ret (v := .tuple #[.agg #[.slice FA l.length FC, .int .i64 d], .bool true]) (by simp [results, Tryz.results49, go_sem, z0, z1]) rfl ⟨⟨⟨FA, FC, l, d⟩, true, rfl, by show l.length ≤ _; omega, HFA.out⟩, HBZ2.out⟩
      · have e1 : (((t[0]'h0).toNat : Int) != 32) = true := by simpa using hq
        clear hW4 hOB
        go_wp2
        have HY := Lib.hid ((ret_box (u := .slice none 0 0) (v := .int .i64 0) HR3.out).up ((Below.refl _ _).alloc (Nat.le_refl _) (.cells #[.slice none 0 0, .int .i64 d] 97)))
        have z0 := HY.out.cell 0 _ rfl
        have z1 := HY.out.cell 1 _ rfl
        refine bodyPost_ret (v := .tuple #[.agg #[.slice none 0 0, .int .i64 0], .bool false]) (by simp [results, Tryz.results49, go_sem, z0, z1]) rfl ⟨ng_bad _ _ _, HBZ.out.alloc (by simp; omega) _⟩
    · have HBZ3 := Lib.hid (show Below w.heap.size w ((w3.setCell ⟨w.heap.size, 0, none⟩ (.slice none 0 0)).setCell ⟨w.heap.size, 1, none⟩ (.int .i64 d)) from ret_below HB3.out (Nat.le_refl _))
      clear hW4 hOB
      go_wp2
      have HY := Lib.hid ((ret_box (u := .slice none 0 0) (v := .int .i64 d) HR3.out).up ((Below.refl _ _).alloc (Nat.le_refl _) (.cells #[.slice none 0 0, .int .i64 d] 97)))
      have z0 := HY.out.cell 0 _ rfl
      have z1 := HY.out.cell 1 _ rfl
      refine bodyPost_ret (v := .tuple #[.agg #[.slice none 0 0, .int .i64 d], .bool true]) (by simp [results, Tryz.results49, go_sem, z0, z1]) rfl ⟨⟨⟨none, 0, [], d⟩, true, rfl, by simp, fac_nil _ _ _⟩, HBZ3.out.alloc (by simp; omega) _⟩
  · have HF := Lib.hid hk
    cases k1
    · go_wp2
      have z0 := HZ.out.1
      have z1 := HZ.out.2
      refine bodyPost_ret (v := .tuple #[.agg #[.slice none 0 0, .int .i64 0], .bool false]) (by simp [results, Tryz.results49, go_sem, z0, z1]) rfl ⟨ng_bad _ _ _, HBZ.out⟩
    · cases k2
      · go_wp2
        have z0 := HZ.out.1
        have z1 := HZ.out.2
        refine bodyPost_ret (v := .tuple #[.agg #[.slice none 0 0, .int .i64 0], .bool false]) (by simp [results, Tryz.results49, go_sem, z0, z1]) rfl ⟨ng_bad _ _ _, HBZ.out⟩
      · cases k3
        · go_wp2
          have z0 := HZ.out.1
          have z1 := HZ.out.2
          refine bodyPost_ret (v := .tuple #[.agg #[.slice none 0 0, .int .i64 0], .bool false]) (by simp [results, Tryz.results49, go_sem, z0, z1]) rfl ⟨ng_bad _ _ _, HBZ.out⟩
        · exact absurd ⟨rfl, rfl, rfl⟩ HF.out
end Go.Proofs.YtlkebhiaimijiaaGreatDoor

/- simplex: begin. -/
import Derived.Test.YtaampjhdgeoicaaGreatMfA
import Derived.Test.YtaampjhdgeoicaaGreatSxQ
namespace Go.Proofs.YtaampjhdgeoicaaGreat
set_option linter.unusedSimpArgs false
set_option linter.unusedVariables false
open Go Go.RowKit
set_option linter.unusedVariables false

theorem infoR7 : (Tryz.prog.info? 37).map (fun i => (i.zero, i.size, i.bytes)) = some (some (.slice none 0 0), 1, 24) := by kernel_rfl
theorem undR7 : Tryz.prog.underlying 101 = some (.slice 37) := by kernel_rfl
theorem src_ofS {W : World} {H size : Nat} {T : TypeId} {vals : List Value} (hH : W.heap[H]? = some (.cells vals.toArray T (0, 0))) (hl : vals.length = size) (h1 : ∀ u ∈ vals, u.oneCell' = true) : SrcAt W (some ⟨H, 0, none⟩) 1 1 size vals where
 none := fun e => nomatch e
 len := by omega
 cells := fun ad e => by cases e; exact cells_of_block hH
 one := h1
theorem gl_own {w : World} {B : Nat} {v : Value} {c : List (Int × Int)} {k : Nat} (h : w.ownsRow B 45 2 v ((gl c k).length + 1) (fc (gl c k) ++ [.int .i64 0, .int .i64 1])) : w.ownsRow B 45 2 v (gl c (k + 1)).length (fc (gl c (k + 1))) := by rw [gl_succ, List.length_append, fc_app]; exact h
theorem rwl_own {w : World} {B : Nat} {v : Value} {l : List (Int × Int)} {i k : Nat} (h : w.ownsRow B 45 2 v ((rwl l i k).length + 1) (fc (rwl l i k) ++ [.int .i64 (if k = i then 1 else 0), .int .i64 1])) : w.ownsRow B 45 2 v (rwl l i (k + 1)).length (fc (rwl l i (k + 1))) := by
 rw [rwl_succ, List.length_append, fc_app]
 by_cases e : k = i
 ·rw [if_pos e] at h ⊢; exact h
 ·rw [if_neg e] at h ⊢; exact h
theorem own_shapeL {W : World} {B s n n' : Nat} {e : TypeId} {v : Value} {xs : List Value} (h : W.ownsRow B e s v n xs) (en : n = n') : ∃ A c, v = .slice A n' c := en ▸ own_shape h
theorem own_len {W : World} {B s n n' : Nat} {e : TypeId} {v : Value} {xs : List Value} (h : W.ownsRow B e s v n xs) (en : n = n') : W.ownsRow B e s v n' xs := en ▸ h
theorem heap_two2 (w : World) (A o : Obj) : ((w.alloc A).alloc o).heap[w.heap.size + 1]? = some o := by
 have := heap_alloc_new (w.alloc A) o
 rw [World.size_alloc] at this
 exact this
theorem ex_imp {p : Prop} {q : Nat → Prop} (h : p → ∃ g, q g) : ∃ g, p → q g := by
 by_cases hp : p
 ·obtain ⟨g, hg⟩ := h hp
  exact ⟨g, fun _ => hg⟩
 ·exact ⟨0, fun h => absurd h hp⟩
/-- The rows laid so far. -/
structure RwsAt (w : World) (B k N : Nat) (F : Nat → Nat → Rat) (v2 : Value) (rb cp : Nat → Nat) : Prop where
 own : w.ownsRow B 37 1 v2 k ((List.range k).map fun i => .slice (some ⟨rb i, 0, none⟩) N (cp i))
 rows : ∀ i, i < k → B ≤ rb i ∧ FrRow w (rb i) N (F i)
 inj : ∀ i j, i < k → j < k → rb i = rb j → i = j
def upn (f : Nat → Nat) (k x i : Nat) : Nat := if i = k then x else f i
section
variable {w w' : World} {B k N g c X : Nat} {F : Nat → Nat → Rat} {v2 v u : Value} {rb cp : Nat → Nat}
theorem RwsAt.nil : RwsAt w B 0 N F (.slice none 0 0) rb cp := ⟨World.ownsRow_nil _ _ _ _, fun i hi => absurd hi (by omega), fun i j hi => absurd hi (by omega)⟩
theorem RwsAt.up (h : RwsAt w B k N F v2 rb cp) (hb : Below w.heap.size w w') : RwsAt w' B k N F v2 rb cp := ⟨own_below h.own hb, fun i hi => ⟨(h.rows i hi).1, (h.rows i hi).2.up hb⟩, h.inj⟩
theorem RwsAt.far (h : RwsAt w B k N F v2 rb cp) (hX : X < B) (i : Nat) (u : Value) : RwsAt (w.setCell ⟨X, i, none⟩ u) B k N F v2 rb cp :=
 ⟨own_set h.own hX, fun j hj => ⟨(h.rows j hj).1, (h.rows j hj).2.of_block (Below.heap_setCell _ _ _ _ (by have := (h.rows j hj).1; first | exact fun e => by (have e2 : rb j = X := e); omega | exact fun e => by (have e2 : X = rb j := e); omega))⟩, h.inj⟩
theorem RwsAt.push (h : RwsAt w B k N F v2 rb cp) (hr : FrRow w g N (F k)) (hB : B ≤ g) (hn : ∀ i, i < k → rb i < g) (ho : w'.ownsRow B 37 1 v (k + 1) (((List.range k).map fun i => .slice (some ⟨rb i, 0, none⟩) N (cp i)) ++ [.slice (some ⟨g, 0, none⟩) N c])) (hg : w.grownBy w' v2.ownBlock) : RwsAt w' B (k + 1) N F v (upn rb k g) (upn cp k c) where
 own := by
  have e : ((List.range (k + 1)).map fun i => Value.slice (some ⟨upn rb k g i, 0, none⟩) N (upn cp k c i)) = ((List.range k).map fun i => .slice (some ⟨rb i, 0, none⟩) N (cp i)) ++ [.slice (some ⟨g, 0, none⟩) N c] := by
   rw [List.range_succ, List.map_append]
   congr 1
   ·refine List.map_congr_left fun i hi => ?_
    have : i ≠ k := by have := List.mem_range.1 hi; omega
    unfold upn
    rw [if_neg this, if_neg this]
   ·simp [upn]
  rw [e]
  exact ho
 rows := fun i hi => by
  unfold upn
  by_cases e : i = k
  ·subst e
   rw [if_pos rfl]
   exact ⟨hB, rowGe.grown hr hg (rowGe.ne hr h.own (by decide))⟩
  ·rw [if_neg e]
   obtain ⟨h1, h2⟩ := h.rows i (by omega)
   exact ⟨h1, rowGe.grown h2 hg (rowGe.ne h2 h.own (by decide))⟩
 inj := fun i j hi hj he => by
  unfold upn at he
  split at he <;> split at he
  ·omega
  ·have := hn j (by omega); omega
  ·have := hn i (by omega); omega
  ·exact h.inj i j (by omega) (by omega) he
theorem RwsAt.kept {B2 s n : Nat} {e : TypeId} {xs : List Value} (h : RwsAt w B k N F v2 rb cp) (ho : w.ownsRow B2 e s v n xs) (hg : w.grownBy w' v.ownBlock) (h1 : 37 ≠ e) (h2 : 45 ≠ e) : RwsAt w' B k N F v2 rb cp :=
 ⟨h.own.kept hg (own_apt3 h.own ho h1), fun i hi => ⟨(h.rows i hi).1, rowGe.grown (h.rows i hi).2 hg (rowGe.ne (h.rows i hi).2 ho h2)⟩, h.inj⟩
end
/-- Which column a row starts with. -/
def bsN (n k : Nat) : List Int := (List.range k).map fun i => ((n + i : Nat) : Int)
theorem bsN_succ (n k : Nat) : bsN n (k + 1) = bsN n k ++ [((n + k : Nat) : Int)] := by unfold bsN; rw [List.range_succ, List.map_append]; rfl
theorem bsN_len (n k : Nat) : (bsN n k).length = k := by unfold bsN; simp

def BegRet (c : List (Int × Int)) (R : List (List (Int × Int))) (b : List (Int × Int)) (w : World) (e : Ending) (w' : World) : Prop :=
 ∃ X L, e = .returned (.pointer (some ⟨X, 0, none⟩)) ∧ TbG w.heap.size X R.length c.length (c.length + R.length) L ∧ TbM w' X R.length c.length (c.length + R.length) L (tb0 c.length (fun i j => rl (mr R i) j) (rl b) (rl c))

set_option maxRecDepth 100000 in
set_option maxHeartbeats 8000000 in
theorem begin_any (c : List (Int × Int)) (R : List (List (Int × Int))) (b : List (Int × Int)) (Ac AR Ab : Option Addr) (cc cR cb : Nat) (w : World) (hc : FactsAt w w.heap.size Ac c) (hR : MxAt w AR R) (hb : FactsAt w w.heap.size Ab b) (h0 : chk37 c R b = 0) :
  Calls Tryz.prog 96 #[.slice Ac c.length cc, .slice AR R.length cR, .slice Ab b.length cb] w fun e w' => BegRet c R b w e w' ∧ Below w.heap.size w w' := by
 obtain ⟨n24, m24, hmb, hrl, hpc, hpb, hpr, hnn⟩ := chk_zero h0
 have KB := Lib.hid (fun wx (h : Below w.heap.size w wx) => cloneR_any b Ab cb wx (factsAt_up hb h) (by omega))
 have KC := Lib.hid (fun wx (h : Below w.heap.size w wx) => cloneR_any c Ac cc wx (factsAt_up hc h) (by omega))
 have NB : Hid (NumsOf b R.length (rl b)) := Lib.hid ⟨hmb.symm, fun j hj => (nums_rl hpb).2 j (by omega)⟩
 have NC := Lib.hid (nums_gl hpc R.length)
 have NR := Lib.hid (fun i (hi : i < R.length) => nums_rwl (l := mr R i) (hpr i hi) (i := i) (m := R.length))
 have HRL := Lib.hid hrl
 have HR := Lib.hid hR
 have KZ := Lib.hid zero_any
 obtain ⟨inf, hi, iz0, iz1, iz2⟩ := info_parts infoC
 obtain ⟨inr, hir, jz0, jz1, jz2⟩ := info_parts infoR7
 obtain ⟨ini, hii, kz0, kz1, kz2⟩ := info_parts infoIc
 clear hc hR hb h0 hmb hrl hpc hpb hpr hnn
 go_enter Tryz.func96, Tryz.ntmps96
 go_wp2_with fail
 refine (KB.out _ (Below.refl _ _)).mono ?_
 rintro e w2 ⟨⟨vb, rfl, ob⟩, hb2⟩
 obtain ⟨A3, c3, rfl, hA3⟩ := own_fr ob NB.out
 have HA3 := Lib.hid hA3
 clear ob hA3
 go_wp2_with fail
 refine (KC.out _ hb2).mono ?_
 rintro e w3 ⟨⟨vc, rfl, oc⟩, hb3⟩
 have oc' : w3.ownsRow w2.heap.size 45 2 vc (gl c 0).length (fc (gl c 0)) := by rw [gl_zero]; exact oc
 clear oc
 obtain ⟨A5, c5, rfl⟩ := own_shape oc'
 have Hoc := Lib.hid oc'
 clear oc'
 go_wp2_with fail
 refine (KZ.out _).mono ?_
 rintro e w4 ⟨rfl, hb4⟩
 have hb24 := hb3.trans (hb4.mono hb3.size)
 have z24 := hb24.size
 have z2 := hb2.size
 have Ho4 := Lib.hid (own_below Hoc.out hb4)
 clear Hoc hb3 hb4
 go_wp2
 go_loopw [26] (fun i wr => ∃ (k : Nat) (A5 : Option Addr) (c5 : Nat), k ≤ R.length ∧ i = .int .i64 k ∧ Bx wr w4.heap.size c.length R.length (.slice none 0 0) (.slice A3 R.length c3) (.slice none 0 0) (.slice A5 (gl c k).length c5) ∧ Hid (wr.ownsRow w2.heap.size 45 2 (.slice A5 (gl c k).length c5) (gl c k).length (fc (gl c k))) ∧ Below w2.heap.size w2 wr) (fun i _ => R.length - (intOf i).toNat)
 case atStart => exact ⟨0, A5, c5, by omega, rfl, Bx.new _ _ _ _ _ _ _, Lib.hid (Ho4.out.alloc _), hb24.alloc z24 _⟩
 case round =>
  obtain ⟨k, A5, c5, hk, rfl, hbox, hown, hbel⟩ := hrel
  have hbz := hbel.size
  have y5 := hbox.c5
  have yf := hbox.fz 5
  have yl := hbox.lt
  have Hl := Lib.hid (show (gl c k).length ≤ 100 by rw [gl_len]; omega)
  by_cases hlt : k < R.length
  ·go_wp2_with fail
   refine wp_region_G 7 (fun w' => ∀ b o, w'.cell? ⟨b, o, none⟩ = if b < wr.heap.size then wr.cell? ⟨b, o, none⟩ else hidC w' b o) (by kernel_rfl) (cif (B := wr.heap.size) (W := wr) (Below.refl _ _).drew) ?_
   intro hG0
   refine wpS1 0 hG0 ?_; intro hG1; clear hG0
   refine wpS1 1 hG1 ?_; intro hG2; clear hG1
   refine wpS1 2 hG2 ?_; intro hG3; clear hG2
   refine wpS1 3 hG3 ?_; intro hG4; clear hG3
   refine wpS2 4 hG4 ?_; intro hG5; clear hG4
   refine wpAnyG_ready (rs := [5]) (by kernel_rfl) (by simp) (AllG.cons rfl hG5 (fun K hK => ?_) AllG.nil)
   (go_simp; go_at_call 101; refine (KZ.out _).mono ?_; rintro e w5 ⟨rfl, hb5⟩; have hb15 : Below wr.heap.size wr w5 := (Below.refl _ _).drew.trans hb5; have z15 := hb15.size)
   refine hK.out _ _ (Or.inr (cif hb15)) (fun hG6 => wpN ?_); clear hK hG5
   refine wpAnyG_ready (rs := [6]) (by kernel_rfl) (by simp) (AllG.cons rfl hG6 (fun K hK => ?_) AllG.nil)
   (go_simp)
   refine hK.out _ _ (Or.inr (cif (hb15.alloc z15 _))) (fun hG7 => wpN ?_); clear hK hG6
   refine wpAnyG_ready (rs := [7]) (by kernel_rfl) (by simp) (AllG.cons rfl hG7 (fun K hK => ?_) AllG.nil)
   (refine step_append_src (by rfl) _ _ 37 (by rfl) w2.heap.size 45 inf (.agg #[.int .i64 0, .int .i64 0]) 2 16 undC hi iz0 iz1 iz2 rfl (by decide) (.slice A5 (gl c k).length c5) (gl c k).length (fc (gl c k)) (by rfl) (by exact (own_below hown.out hb15).alloc _) (some ⟨w5.heap.size, 0, none⟩) 1 1 [.int .i64 0, .int .i64 1] (by rfl) (src_ofS (T := 45) (by exact heap_alloc_new _ _) rfl (two_one rfl rfl)) (by unfold maxLen; have := Hl.out; omega) (by have := Hl.out; omega) (by first | (simp; done) | (simp; omega)) ?_; intro v8 w8 ho8 hg8 hat8; have box8 := Bx.grown (hbox.up (hb15.alloc z15 (.cells #[.int .i64 0, .int .i64 1] 45))) ((own_below hown.out hb15).alloc _) hg8 (by decide); have hb8 : Below w2.heap.size w2 w8 := Below.grown (hbel.trans ((hb15.alloc z15 (.cells #[.int .i64 0, .int .i64 1] 45)).mono hbz)) hg8 (by first | (simp; done) | (simp; omega)) (fun g h => (hown.out.lt g h).1); have ho8' := gl_own ho8; obtain ⟨A8, c8, rfl⟩ := own_shape ho8'; have Ho8 := Lib.hid ho8'; have y8 := box8.fz 5; have y85 := box8.c5; have yl8 := box8.lt; have Hb8 := Lib.hid box8; clear ho8 ho8' hg8 hat8 box8)
   refine hK.out _ _ (Or.inl rfl) (fun hG8 => wpN ?_); clear hK hG7
   refine wpS1 8 hG8 ?_; intro hG9; clear hG8
   refine wpS1 9 hG9 ?_; intro hG10; clear hG9
   refine wpAnyG_ready (rs := [10]) (by kernel_rfl) (by simp) (AllG.cons rfl hG10 (fun K hK => ?_) AllG.nil)
   (go_simp)
   refine hK.out _ _ (Or.inl rfl) (fun hG11 => wpN ?_); clear hK hG10
   refine wpAnyG_done (by kernel_rfl) ?_ _; clear hG11
   go_wp2
   go_roundw
   case rel => exact ⟨k + 1, A8, c8, by omega, by go_num, Hb8.out.set5 _, Lib.hid (Hb8.out.put Ho8.out (by decide) 5 _), hb8.setCell (by show w2.heap.size ≤ w4.heap.size; omega) _⟩
   case measure => simp [intOf]; omega
  ·obtain rfl : R.length = k := by omega
   have hbox5 := Lib.hid hbox
   obtain ⟨w5, hw5⟩ : ∃ w5 : World, w5 = wr := ⟨_, rfl⟩
   obtain ⟨X, hX⟩ : ∃ X, X = w4.heap.size := ⟨_, rfl⟩
   rw [← hX] at hbox hbox5 y5 yf yl ⊢
   rw [← hw5] at hbox hbox5 hown hbel hbz y5 yf yl ⊢
   clear hw5
   obtain ⟨A', c', hv, hg5⟩ := own_fr hown.out NC.out
   injection hv with hv1 hv2 hv3
   subst hv1
   have Hg5 := Lib.hid hg5
   have Hv2 := Lib.hid hv2
   have HX2 : w2.heap.size ≤ X := by omega
   clear hg5 hv2 hv3 hX y5 yf
   have hbw5 := hb2.trans (hbel.mono z2)
   have zw5 := hbw5.size
   clear hown
   go_wp2
   go_loopw [41] (fun i wr => ∃ (k : Nat) (v2 v4 : Value) (rb cp : Nat → Nat), k ≤ R.length ∧ i = .int .i64 k ∧ Bx wr X c.length R.length v2 (.slice A3 R.length c3) v4 (.slice A5 (gl c R.length).length c5) ∧ Hid (RwsAt wr w5.heap.size k (c.length + R.length) (tb0 c.length (fun i j => rl (mr R i) j) (rl b) (rl c)).a v2 rb cp) ∧ Hid (wr.ownsRow w5.heap.size 3 1 v4 (bsN c.length k).length (ic (bsN c.length k))) ∧ Kw X (X + 1) w5 wr) (fun i _ => R.length - (intOf i).toNat)
   case atStart => exact ⟨0, _, _, id, id, by omega, rfl, hbox, Lib.hid RwsAt.nil, Lib.hid (World.ownsRow_nil _ _ _ _), Kw.refl _ _ _⟩
   case round =>
    clear hbox
    obtain ⟨k, v2, v4, rb, cp, hk, rfl, hbox, hrw, hob, hkw⟩ := hrel
    obtain ⟨wt, hwt⟩ : ∃ wt : World, wt = wr := ⟨_, rfl⟩
    rw [← hwt] at hbox hrw hob hkw ⊢
    clear hwt
    have z5t := hkw.size
    have hbel2 : Below w.heap.size w wt := hbw5.trans (hkw.below (by omega) zw5)
    by_cases hlt : k < R.length
    ·obtain ⟨b1, o1, ea, hb1, hc1⟩ := HR.out.at_ hlt
     subst ea
     obtain ⟨S, cS, d1, _, hS⟩ := hc1 k hlt
     have d1' := (hbel2.cell (p := ⟨b1, o1 + k, none⟩) hb1).trans d1
     have g1 : b1 < wt.heap.size := by have := hbel2.size; omega
     have k0 : (0 : Int) ≤ (k : Int) := by omega
     have k1 : (k : Int) < (R.length : Int) := by omega
     have hln := HRL.out k hlt
     have KR := Lib.hid (cloneR_any (mr R k) S cS wt (factsAt_up hS hbel2) (by omega))
     have Hln := Lib.hid hln
     clear hc1 d1 hS hln
     go_wp2_with fail
     refine KR.out.mono ?_
     rintro e w6 ⟨⟨vr, rfl, orr⟩, hb6⟩
     have or' : w6.ownsRow wt.heap.size 45 2 vr (rwl (mr R k) k 0).length (fc (rwl (mr R k) k 0)) := by rw [rwl_zero]; exact orr
     clear orr
     obtain ⟨Ar, cr, rfl⟩ := own_shapeL or' (show (rwl (mr R k) k 0).length = c.length + 0 by rw [rwl_len, Hln.out])
     have Hor := Lib.hid or'
     clear or'
     go_wp2
     go_loopw [10, 50] (fun v i wr => ∃ (j : Nat) (Ar : Option Addr) (cr : Nat), j ≤ R.length ∧ i = .int .i64 j ∧ v = .slice Ar (c.length + j) cr ∧ Hid (wr.ownsRow wt.heap.size 45 2 (.slice Ar (c.length + j) cr) (rwl (mr R k) k j).length (fc (rwl (mr R k) k j))) ∧ Below wt.heap.size wt wr) (fun _ i _ => R.length - (intOf i).toNat)
     case atStart => exact ⟨0, Ar, cr, by omega, rfl, rfl, Hor, hb6⟩
     case round =>
      obtain ⟨j, Aj, cj, hj, rfl, rfl, hoj, hbj⟩ := hrel
      have hbjz := hbj.size
      have Hlj := Lib.hid (show (rwl (mr R k) k j).length ≤ 100 by rw [rwl_len, Hln.out]; omega)
      have Hlj2 := Lib.hid (show (rwl (mr R k) k (j + 1)).length = c.length + (j + 1) by rw [rwl_len, Hln.out])
      by_cases hltj : j < R.length
      ·by_cases e : j = k
       ·subst e
        go_wp2_with fail
        refine (KZ.out _).mono ?_
        rintro e w7 ⟨rfl, hb7⟩
        have hb17 := hbj.trans (hb7.mono hbjz)
        have z17 := hb17.size
        have Ho7 := Lib.hid (own_below hoj.out hb7)
        go_wp2_with (at_builtin; refine wpList_push rfl _ _ 37 rfl wt.heap.size 45 inf (.agg #[.int .i64 0, .int .i64 0]) 2 16 undC hi iz0 iz1 iz2 rfl (by decide) (by decide) _ (rwl (mr R j) j j).length (fc (rwl (mr R j) j j)) rfl ((Ho7.out.alloc _).alloc _) (w7.heap.size + 1) 45 [.int .i64 1, .int .i64 1] rfl rfl (heap_two2 _ _ _) (two_one rfl rfl) (by have := Hlj.out; omega) (by first | omega | (simp; omega)) (B := wt.heap.size) (W := wt) ((hb17.alloc z17 _).alloc (by simp; omega) _) (Nat.le_refl _) ?_; intro v8 w8 hown' hgrow hat hbw8; have hown2 := rwl_own (l := mr R j) (i := j) (k := j) (by rw [if_pos rfl]; exact hown'); obtain ⟨A8, c8, rfl⟩ := own_shapeL hown2 Hlj2.out; have Hown := Lib.hid hown2; clear hown' hown2 hgrow hat)
        go_roundw
        case rel => exact ⟨j + 1, A8, c8, by omega, by go_num, rfl, Hown, hbw8⟩
        case measure => simp [intOf]; omega
       ·have e1 : ¬ (j : Int) = (k : Int) := by omega
        go_wp2_with fail
        refine (KZ.out _).mono ?_
        rintro e w7 ⟨rfl, hb7⟩
        have hb17 := hbj.trans (hb7.mono hbjz)
        have z17 := hb17.size
        have Ho7 := Lib.hid (own_below hoj.out hb7)
        go_wp2_with (at_builtin; refine wpList_push rfl _ _ 37 rfl wt.heap.size 45 inf (.agg #[.int .i64 0, .int .i64 0]) 2 16 undC hi iz0 iz1 iz2 rfl (by decide) (by decide) _ (rwl (mr R k) k j).length (fc (rwl (mr R k) k j)) rfl ((Ho7.out.alloc _).alloc _) (w7.heap.size + 1) 45 [.int .i64 0, .int .i64 1] rfl rfl (heap_two2 _ _ _) (two_one rfl rfl) (by have := Hlj.out; omega) (by first | omega | (simp; omega)) (B := wt.heap.size) (W := wt) ((hb17.alloc z17 _).alloc (by simp; omega) _) (Nat.le_refl _) ?_; intro v8 w8 hown' hgrow hat hbw8; have hown2 := rwl_own (l := mr R k) (i := k) (k := j) (by rw [if_neg e]; exact hown'); obtain ⟨A8, c8, rfl⟩ := own_shapeL hown2 Hlj2.out; have Hown := Lib.hid hown2; clear hown' hown2 hgrow hat)
        go_roundw
        case rel => exact ⟨j + 1, A8, c8, by omega, by go_num, rfl, Hown, hbw8⟩
        case measure => simp [intOf]; omega
      ·obtain rfl : R.length = j := by omega
       obtain ⟨A', c', hv, hg⟩ := own_fr hoj.out (NR.out k hlt)
       injection hv with hv1 hv2 hv3
       subst hv1
       obtain ⟨g, rfl, hge, hfr⟩ := hg (by omega)
       rw [Hln.out] at hfr
       have hfr' : FrRow wr g (c.length + R.length) ((tb0 c.length (fun i j => rl (mr R i) j) (rl b) (rl c)).a k) := hfr
       have Hfr := Lib.hid hfr'
       have hn : ∀ i, i < k → rb i < g := fun i hi => Nat.lt_of_lt_of_le (hrw.out.rows i hi).2.lt hge
       have Hn := Lib.hid hn
       obtain ⟨A2, c2, rfl⟩ := own_shape hrw.out.own
       obtain ⟨A4, c4, rfl⟩ := own_shape hob.out
       clear hv2 hv3 hfr hfr' hn Hlj Hlj2 hoj
       have HRW := Lib.hid (hrw.out.up hbj)
       have HBX := Lib.hid (hbox.up hbj)
       have HOB := Lib.hid (own_below hob.out hbj)
       have HKW := Lib.hid (hkw.up hbj)
       have hbelr : Below w.heap.size w wr := hbel2.trans (hbj.mono (by have := hbel2.size; omega))
       have zr := hbelr.size
       have y2 := HBX.out.c2
       have yf2 := HBX.out.fz 2
       have ylr := HBX.out.lt
       clear hbox hrw hob hkw
       have z5r : w5.heap.size ≤ wr.heap.size := HKW.out.size
       go_wp2_with (at_builtin; refine wpList_push rfl _ _ 101 rfl w5.heap.size 37 inr (.slice none 0 0) 1 24 undR7 hir jz0 jz1 jz2 rfl (by decide) (by decide) _ k ((List.range k).map fun i => .slice (some ⟨rb i, 0, none⟩) (c.length + R.length) (cp i)) rfl (HRW.out.own.alloc _) wr.heap.size 37 [.slice (some ⟨g, 0, none⟩) (c.length + R.length) cj] rfl rfl (heap_alloc_new _ _) (one_one rfl) (by omega) (by first | omega | (simp; omega)) (B := w.heap.size) (W := w) (hbelr.alloc zr _) zw5 ?_; intro v8 w8 ho8 hg8 hat8 hb8; have hal := (Below.refl wr.heap.size wr).alloc (Nat.le_refl _) (.cells #[.slice (some ⟨g, 0, none⟩) (c.length + R.length) cj] 37); have R8 := Lib.hid (RwsAt.push (cp := cp) (c := cj) (HRW.out.up hal) (Hfr.out.up hal) (Nat.le_trans z5t hge) Hn.out ho8 hg8); have B8 := Lib.hid (Bx.grown (HBX.out.up hal) (own_below HRW.out.own hal) hg8 (by decide)); have O8 := Lib.hid (World.ownsRow.kept (own_below HOB.out hal) hg8 (own_apt3 (own_below HOB.out hal) (own_below HRW.out.own hal) (by decide))); have K8 := Lib.hid (Kw.grown (HKW.out.up hal) (own_below HRW.out.own hal) hg8 (Nat.le_refl _)); obtain ⟨A8, c8, rfl⟩ := own_shape ho8; clear ho8 hg8 hat8 hal; have y82 := B8.out.c2; have yf82 := B8.out.fz 2; have yl8 := B8.out.lt; clear y2 yf2 ylr)
       obtain ⟨w9, hw9⟩ : ∃ w9, w9 = w8.setCell ⟨X, 2, none⟩ (.slice A8 (k + 1) c8) := ⟨_, rfl⟩
       have HX5 := Lib.hid yl
       have B9 := Lib.hid (show Bx w9 X c.length R.length (.slice A8 (k + 1) c8) (.slice A3 R.length c3) (.slice A4 (bsN c.length k).length c4) (.slice A5 (gl c R.length).length c5) by rw [hw9]; exact B8.out.set2 _)
       have R9 := Lib.hid (show RwsAt w9 w5.heap.size (k + 1) (c.length + R.length) (tb0 c.length (fun i j => rl (mr R i) j) (rl b) (rl c)).a (.slice A8 (k + 1) c8) (upn rb k g) (upn cp k cj) by rw [hw9]; exact R8.out.far yl 2 _)
       have O9 := Lib.hid (show w9.ownsRow w5.heap.size 3 1 (.slice A4 (bsN c.length k).length c4) (bsN c.length k).length (ic (bsN c.length k)) by rw [hw9]; exact own_set O8.out yl)
       have K9 := Lib.hid (show Kw X (X + 1) w5 w9 by rw [hw9]; exact K8.out.set (p := ⟨X, 2, none⟩) (Nat.le_refl _) (Nat.lt_succ_self _) _)
       have hb9 : Below w.heap.size w w9 := by rw [hw9]; exact hb8.setCell (by show w.heap.size ≤ X; omega) _
       rw [← hw9]
       clear hw9 y82 yf82 yl8 B8 R8 O8 K8 hb8 HRW HBX HOB HKW
       have y4 := B9.out.c4
       have y0 := B9.out.c0
       have yf4 := B9.out.fz 4
       have yl9 := B9.out.lt
       have Hbl := Lib.hid (bsN_len c.length k)
       have z59 : w5.heap.size ≤ w9.heap.size := K9.out.size
       have q1 : (0 : Int) ≤ (c.length : Int) := by omega
       have q2 : (c.length : Int) ≤ 24 := by omega
       have q3 : (k : Int) ≤ 24 := by omega
       have q4 : IntKind.i64.wrap ((c.length : Int) + (k : Int)) = (c.length : Int) + (k : Int) := IntWalk.i64_in _ (by omega)
       refine wp_region_G 12 (fun w' => ∀ b o, w'.cell? ⟨b, o, none⟩ = if b < w9.heap.size then w9.cell? ⟨b, o, none⟩ else hidC w' b o) (by kernel_rfl) (cif (B := w9.heap.size) (W := w9) (Below.refl _ _).drew) ?_
       intro hG0
       refine wpS1 0 hG0 ?_; intro hG1; clear hG0
       refine wpS1 1 hG1 ?_; intro hG2; clear hG1
       refine wpS1 2 hG2 ?_; intro hG3; clear hG2
       refine wpS1 3 hG3 ?_; intro hG4; clear hG3
       refine wpS2 4 hG4 ?_; intro hG5; clear hG4
       refine wpS1 5 hG5 ?_; intro hG6; clear hG5
       refine wpS1 6 hG6 ?_; intro hG7; clear hG6
       refine wpS1 7 hG7 ?_; intro hG8; clear hG7
       refine wpS2 8 hG8 ?_; intro hG9; clear hG8
       refine wpS1 9 hG9 ?_; intro hG10; clear hG9
       refine wpS1 10 hG10 ?_; intro hG11; clear hG10
       refine wpAnyG_ready (rs := [11]) (by kernel_rfl) (by simp) (AllG.cons rfl hG11 (fun K hK => ?_) AllG.nil)
       (go_simp)
       refine hK.out _ _ (Or.inr (cif ((Below.refl _ _).drew.alloc (Nat.le_refl _) _))) (fun hG12 => wpN ?_); clear hK hG11
       refine wpAnyG_ready (rs := [12]) (by kernel_rfl) (by simp) (AllG.cons rfl hG12 (fun K hK => ?_) AllG.nil)
       (refine step_append_src (by rfl) _ _ 22 (by rfl) w5.heap.size 3 ini (.int .i64 0) 1 8 undIc hii kz0 kz1 kz2 rfl (by decide) (.slice A4 (bsN c.length k).length c4) (bsN c.length k).length (ic (bsN c.length k)) (by rfl) (by exact own_below O9.out ((Below.refl _ _).alloc (Nat.le_refl _) _).drew) (some ⟨w9.heap.size, 0, none⟩) 1 1 [.int .i64 ((c.length : Int) + (k : Int))] (by rfl) (src_ofS (T := 3) (by exact heap_alloc_new _ _) rfl (one_one rfl)) (by unfold maxLen; have := Hbl.out; omega) (by have := Hbl.out; omega) (by first | (simp; done) | (simp; omega)) ?_; intro va wa hoa hga hata; have hal := ((Below.refl w9.heap.size w9).alloc (Nat.le_refl _) (.cells #[.int .i64 ((c.length : Int) + (k : Int))] 3)).drew; have Ra := Lib.hid (RwsAt.kept (R9.out.up hal) (own_below O9.out hal) hga (by decide) (by decide)); have Ba := Lib.hid (Bx.grown (B9.out.up hal) (own_below O9.out hal) hga (by decide)); have Ka := Lib.hid (Kw.grown (K9.out.up hal) (own_below O9.out hal) hga (Nat.le_refl _)); have hba : Below w.heap.size w wa := Below.grown (hb9.trans (hal.mono (by omega))) hga (by have := hal.size; have := hb9.size; omega) (fun g h => by have := (O9.out.lt g h).1; omega); have hoa2 : wa.ownsRow w5.heap.size 3 1 va (bsN c.length (k + 1)).length (ic (bsN c.length (k + 1))) := (by rw [bsN_succ, List.length_append]; unfold ic; rw [List.map_append]; exact hoa); obtain ⟨Aa, ca, rfl⟩ := own_shape hoa2; have Oa := Lib.hid hoa2; clear hoa hoa2 hga hata hal; have ya4 := Ba.out.c4; have yfa := Ba.out.fz 4; have yla := Ba.out.lt; clear y4 y0 yf4 yl9)
       refine hK.out _ _ (Or.inl rfl) (fun hG13 => wpN ?_); clear hK hG12
       refine wpS1 13 hG13 ?_; intro hG14; clear hG13
       refine wpS1 14 hG14 ?_; intro hG15; clear hG14
       refine wpAnyG_ready (rs := [15]) (by kernel_rfl) (by simp) (AllG.cons rfl hG15 (fun K hK => ?_) AllG.nil)
       (go_simp)
       refine hK.out _ _ (Or.inl rfl) (fun hG16 => wpN ?_); clear hK hG15
       refine wpAnyG_done (by kernel_rfl) ?_ _; clear hG16
       go_wp2
       go_roundw
       case rel => exact ⟨k + 1, _, _, upn rb k g, upn cp k cj, by omega, by go_num, Ba.out.set4 _, Lib.hid (Ra.out.far HX5.out 4 _), Lib.hid (own_set Oa.out HX5.out), Ka.out.set (p := ⟨X, 4, none⟩) (Nat.le_refl _) (Nat.lt_succ_self _) _⟩
       case measure => simp [intOf]; omega
    ·obtain rfl : R.length = k := by omega
     have hbelr : Below w.heap.size w wt := hbel2
     have hG : BegRet c R b w (.returned (.pointer (some ⟨X, 0, none⟩))) wt := by
      obtain ⟨gr, hgr⟩ := ex_imp HA3.out
      obtain ⟨gc, hgc⟩ := ex_imp Hg5.out
      obtain ⟨A2, c2, rfl, h2⟩ := rowGe_own hrw.out.own (fun i => .slice (some ⟨rb i, 0, none⟩) (c.length + R.length) (cp i)) (fun i hi => by simp [hi])
      obtain ⟨A4, c4, rfl, h4⟩ := rowGe_own (own_len hob.out (bsN_len _ _)) (fun i => .int .i64 ((c.length + i : Nat) : Int)) (fun i hi => by unfold ic bsN; simp [hi])
      obtain ⟨gt, hgt⟩ := ex_imp h2
      obtain ⟨gb, hgb⟩ := ex_imp h4
      have hrw := hrw.out
      have hb5 := hbox5.out
      refine ⟨X, ⟨A2, A3, A4, A5, c2, c3, c4, c5, gt, gr, gb, gc, rb, cp⟩, rfl, ⟨fun h => (hgt h).1, fun h => (hgr h).1, fun h => (hgb h).1, fun h => (hgc h).1, hrw.inj, fun i hi => ?_, fun i hi => ?_, fun h => ?_, by omega, fun h => ⟨(hgr h).2.1, ?_⟩, fun h => ?_, fun i hi => ?_, by omega⟩, ⟨?_, fun h => (hgt h).2.2, fun h => ?_, fun h => (hgb h).2.2, fun h => ?_, fun i hi => (hrw.rows i hi).2⟩⟩
      ·have h1 := (hgr (by omega)).2.2.lt
       have h2 := (hrw.rows i hi).1
       show rb i ≠ gr
       omega
      ·have h1 := (hgc (by omega)).2.2.lt
       have h2 := (hrw.rows i hi).1
       show rb i ≠ gc
       omega
      ·have h1 := (hgr h).2.2.lt
       have h2 := (hgc (by omega)).2.1
       show gr ≠ gc
       omega
      ·have h1 := (hgb h).2.1
       show w.heap.size ≤ gb
       omega
      ·have h1 := (hgc h).2.1
       show w.heap.size ≤ gc
       omega
      ·have h2 := (hrw.rows i hi).1
       show w.heap.size ≤ rb i
       omega
      ·refine rowGe.congr hbox fun i hi => ?_
       rcases i with _ | _ | _ | _ | _ | _ | _ | _ | i
       ·rfl
       ·rfl
       ·rfl
       ·rfl
       ·rfl
       ·show Value.slice A5 (gl c R.length).length c5 = .slice A5 (c.length + R.length) c5
        rw [gl_len]
       ·rfl
       ·rfl
       ·omega
      ·have h1 := (hgr h).2.2
       have h2 := h1.lt
       exact hkw.row (h1.up hbel) (by show gr < X ∨ X + 1 ≤ gr; omega)
      ·have h1 := (hgc h).2.2
       have h2 : gc ≠ X := rowGe.neb h1 hb5 (by decide)
       exact hkw.row h1 (by show gc < X ∨ X + 1 ≤ gc; omega)
     have HG := Lib.hid hG
     clear hG hbox hrw hob hkw hbox5 HA3 Hg5
     go_wp2
     refine bodyPost_ret (v := .pointer (some ⟨X, 0, none⟩)) (by simp [results, Tryz.results96, go_sem]) rfl ⟨HG.out, hbelr⟩

end Go.Proofs.YtaampjhdgeoicaaGreat

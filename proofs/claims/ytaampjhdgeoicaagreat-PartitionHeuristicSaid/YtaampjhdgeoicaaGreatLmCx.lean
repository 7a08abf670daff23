/- The reference's Cuts. -/
import Derived.Test.YtaampjhdgeoicaaGreatMfA
import Derived.Test.YtaampjhdgeoicaaGreatMvE
import Derived.Test.YtaampjhdgeoicaaGreatLmS
namespace Go.Proofs.YtaampjhdgeoicaaGreat
set_option linter.unusedSimpArgs false
set_option linter.unusedVariables false
open Go Go.RowKit
set_option linter.unusedVariables false

def RCutRet (t : Tsk) (s : List Int) (e : Ending) (w' : World) : Prop := ∃ v, e = .returned (.tuple #[v, .int .i64 (lmC t s)]) ∧ GotCs w' v (cuL t s)
/-- A landmark has achievers. -/
theorem lm_ach {t : Tsk} {s : List Int} (hr : Right t) (hc : lmC t s = 0) {k : Nat} (hk : k < (lmL t s).length) : ach t s (fac (lmL t s) k) ≠ [] := by
 have hst : stB t.vars s = true := by
  cases e : stB t.vars s
  ·unfold lmC at hc; rw [e] at hc; cases hc
  ·rfl
 have hg : hsM t.goal (rcB t s noF) = true := by
  cases e : hsM t.goal (rcB t s noF)
  ·unfold lmC at hc; rw [hst, e] at hc; cases hc
  ·rfl
 have hm := fac_mem hk
 rw [show lmL t s = lmks t s by unfold lmL; rw [if_pos hc]] at hm ⊢
 exact ach_ne hr hg (mem_lmks.1 hm).2.2

set_option maxRecDepth 100000 in
set_option maxHeartbeats 8000000 in
theorem rcuts_any (t : Tsk) (p : Lies) (s : List Int) (AS : Option Addr) (cs : Nat) (w : World) (ht : TaskAt w w.heap.size t p) (hs : IntsAt w w.heap.size AS s) (hr : Right t) :
  Calls Tryz.prog 20 #[TaskV t p, .slice AS s.length cs] w fun e w' => RCutRet t s e w' ∧ Below w.heap.size w w' := by
 have K1 := Lib.hid (fun wx (hb : Below w.heap.size w wx) => rfacts_any t p s AS cs wx (ht.up hb) (hs.up hb) hr)
 have K2 := Lib.hid (fun a1 a2 wx (hb : Below w.heap.size w wx) => rachs_any t p s AS cs a1 a2 wx (ht.up hb) (hs.up hb) hr)
 have hln := lmL_len2 (s := s) hr
 have o64 := hr.no
 have hac : lmC t s = 0 → ∀ k, k < (lmL t s).length → acC t s (fv (lmL t s) k) (fx (lmL t s) k) = 0 := fun hc k hk => by
  have hst : stB t.vars s = true := by
   cases e : stB t.vars s
   ·unfold lmC at hc; rw [e] at hc; cases hc
   ·rfl
  have hm := fac_mem hk
  rw [show lmL t s = lmks t s by unfold lmL; rw [if_pos hc]] at hm
  have h3 := faB_one.2 (mem_lmks.1 hm).1
  unfold acC
  rw [hst]
  rw [show lmL t s = lmks t s by unfold lmL; rw [if_pos hc]]
  rw [show faB t.vars [(fv (lmks t s) k, fx (lmks t s) k)] = true from h3]
  rfl
 have hsame : lmC t s = 0 → cuN t s (lmL t s) 1048576 (lmL t s).length = cuL t s := fun hc => cuN_same (fun i hi => mkC_same hr (lm_ach hr hc hi) (by omega) (by omega)) _ (Nat.le_refl _)
 have hzero : lmC t s ≠ 0 → lmL t s = [] ∧ cuL t s = [] := fun h => by
  have e : lmL t s = [] := by unfold lmL; rw [if_neg h]
  exact ⟨e, by unfold cuL; rw [e]; rfl⟩
 have HFo := Lib.hid (show ∀ e w', RFacRet t s e w' → ∃ v, e = .returned (.tuple #[v, .int .i64 (lmC t s)]) ∧ GotFs w' v (lmL t s) from fun e w' h => h)
 obtain ⟨av, ai, ag, ao, cv, ci, cg, co⟩ := p
 unfold TaskV at *
 dsimp only at *
 obtain ⟨F, hFe⟩ : ∃ F, lmL t s = F := ⟨_, rfl⟩
 rw [hFe] at hln HFo hzero hac hsame
 have HTA := Lib.hid ht
 obtain ⟨inf, hi, iz0, iz1, iz2⟩ := info_parts infoCu
 clear hr hFe
 by_cases hc : lmC t s = 0
 case neg =>
  have HZ := Lib.hid (hzero hc)
  have Hcn := Lib.hid hc
  have hcb : ((lmC t s) != 0) = true := by simpa using hc
  obtain ⟨C, hC⟩ : ∃ C, lmC t s = C := ⟨_, rfl⟩
  rw [hC] at HFo hcb
  have HC := Lib.hid hC
  clear hc K2 hac hsame hzero hC
  go_enter Tryz.func20, Tryz.ntmps20
  go_wp2_with fail
  refine (K1.out _ (by exact bel)).mono ?_
  rintro e w1 ⟨hr1, hb1⟩
  obtain ⟨v1, rfl, A1, c1, rfl, _, hf1⟩ := HFo.out _ _ hr1
  clear hr1 hf1
  go_wp2
  refine bodyPost_ret (v := .tuple #[.slice none 0 0, .int .i64 C]) (by simp [results, Tryz.results20, go_sem]) rfl ⟨⟨_, by rw [HC.out], by rw [HZ.out.2]; exact gotCs_nil _⟩, by exact bel⟩
 have Hc := Lib.hid hc
 have Hac := Lib.hid (hac hc)
 have Hsame := Lib.hid (hsame hc)
 rw [hc] at HFo
 clear hc hac hsame hzero
 go_enter Tryz.func20, Tryz.ntmps20
 go_wp2_with fail
 refine (K1.out _ (by exact bel)).mono ?_
 rintro e w1 ⟨hr1, hb1⟩
 obtain ⟨v1, rfl, A1, c1, rfl, _, hf1⟩ := HFo.out _ _ hr1
 have hbx1 : Boxed w1 w.heap.size t ⟨av, ai, ag, ao, cv, ci, cg, co⟩ := Boxed.up (by constructor <;> simp) hb1
 have hbw1 : Below w.heap.size w w1 := by exact bel
 have z1 := hbw1.size
 have z11 : w.heap.size < w1.heap.size := hbx1.lt
 have Hf1 := Lib.hid hf1
 clear hr1 hf1 hb1
 obtain ⟨z0, y0, y1, y2, y3⟩ := id hbx1
 dsimp only at y0 y1 y2 y3
 go_wp2
 go_loopw [8, 30] (fun v i wr => ∃ (k : Nat), k ≤ F.length ∧ i = .int .i64 k ∧ Hid (CuRow wr w1.heap.size v (cuN t s F 1048576 k)) ∧ Below w1.heap.size w1 wr) (fun _ i _ => F.length - (intOf i).toNat)
 case atStart => exact ⟨0, by omega, rfl, Lib.hid (CuRow.nil _ _), Below.refl _ _⟩
 case round =>
  clear z0 y0 y1 y2 y3
  obtain ⟨k, hk, rfl, hrow, hbel⟩ := hrel
  have hbz := hbel.size
  have hbwr : Below w.heap.size w wr := hbw1.trans (hbel.mono z1)
  have hcl := cuN_len (t := t) (s := s) (F := F) (M := 1048576) k
  obtain ⟨A0, c0, rfl, hA0, hC0⟩ := hrow.out.got (by omega)
  have HC0 := Lib.hid hC0
  clear hC0
  by_cases hlt : k < F.length
  ·obtain ⟨b1, o1, ea, hb1, hc1⟩ := Hf1.out.at_ hlt
   subst ea
   obtain ⟨z0, y0, y1, y2, y3⟩ := id (hbx1.up hbel)
   dsimp only at y0 y1 y2 y3
   have d1 := (hbel.cell (p := ⟨b1, o1 + k * 2, none⟩) hb1).trans (hc1 k hlt).1
   have d2 := (hbel.cell (p := ⟨b1, o1 + k * 2 + 1, none⟩) hb1).trans (hc1 k hlt).2
   have g1 : b1 < wr.heap.size := by omega
   have k0 : (0 : Int) ≤ (k : Int) := by omega
   have k1 : (k : Int) < (F.length : Int) := by omega
   obtain ⟨wo, rfl⟩ : ∃ wo : World, wo = wr := ⟨_, rfl⟩
   have hbA : Below wo.heap.size wo (wo.alloc (.cells #[.int .i64 (fv F k), .int .i64 (fx F k)] 75)) := (Below.refl _ _).alloc (Nat.le_refl _) _
   have K3 := Lib.hid (K2.out (fv F k) (fx F k) _ (hbwr.trans (hbA.mono hbwr.size)))
   have hac := Hac.out k hlt
   have HacK := Lib.hid hac
   clear hc1 hac
   go_wp2_with fail
   refine K3.out.mono ?_
   rintro e w3 ⟨hr3, hb3⟩
   unfold RAchRet acL at hr3
   rw [HacK.out, if_pos rfl] at hr3
   obtain ⟨v3, rfl, S, c3, rfl, hS3, hI3, hlo3⟩ := hr3
   have hbo3 : Below wo.heap.size wo w3 := hbA.trans (hb3.mono (by simp))
   have hb13 := hbel.trans (hbo3.mono hbz)
   have z3 : wo.heap.size < w3.heap.size := by have := hb3.size; simp at this; omega
   have hl3 : ∀ a, S = some a → wo.heap.size < a.block := fun a e => by have := hlo3 a e; simp at this; omega
   obtain ⟨O, hO⟩ : ∃ O, ach t s (fv F k, fx F k) = O := ⟨_, rfl⟩
   have Horg := Lib.hid (show ∀ i, i < O.length → 0 ≤ nth O i ∧ nth O i < t.ops.length from fun i hi => by rw [← hO] at hi ⊢; exact ach_rng hi)
   have hOl : O.length ≤ t.ops.length := by rw [← hO]; exact ach_len
   have Hyes := Lib.hid (fun h => cuN_yes (t := t) (s := s) (F := F) (M := 1048576) (k := k) h)
   have Hno := Lib.hid (fun h => cuN_no (t := t) (s := s) (F := F) (M := 1048576) (k := k) h)
   have hOf : ach t s (fac F k) = O := hO
   have hmk : mkC t s 1048576 (fac F k) = ⟨O, mnC t O 1048576 O.length⟩ := by unfold mkC; rw [hOf]
   rw [hOf] at Hyes Hno
   rw [hO] at hI3
   rw [hmk] at Hno
   rw [hO]
   have HI3 := Lib.hid hI3
   have Hl3 := Lib.hid hl3
   have Hrw := hrow
   have HX := Lib.hid (row_new2 w3 (.slice S O.length c3) (.int .i64 1048576) 41)
   have hbB : Below w3.heap.size w3 (w3.alloc (.cells #[.slice S O.length c3, .int .i64 1048576] 41)) := (Below.refl _ _).alloc (Nat.le_refl _) _
   have HX5 : Hid ((w3.alloc (.cells #[.slice S O.length c3, .int .i64 1048576] 41)).rowIs w3.heap.size 41 2 (cf S O.length c3 1048576)) := HX
   clear hI3 hl3 hlo3 d1 d2 g1 K3 hO hOf hmk hrow hA0 z0 y0 y1 y2 y3 hS3
   go_wp2
   go_loopw [45] (fun i wr => ∃ (j : Nat) (y : Int), j ≤ O.length ∧ i = .int .i64 j ∧ Hid (y = mnC t O 1048576 j) ∧ Hid (wr.rowIs w3.heap.size 41 2 (cf S O.length c3 y)) ∧ Hid (w3.heap.size < wr.heap.size) ∧ Below w3.heap.size w3 wr) (fun i _ => O.length - (intOf i).toNat)
   case atStart => exact ⟨0, _, by omega, rfl, Lib.hid rfl, HX5, Lib.hid (by simp), hbB⟩
   case round =>
    obtain ⟨j, y, hj, rfl, hy, hX, hz, hb3r⟩ := hrel
    have hzr := hz.out
    have hbor : Below wo.heap.size wo wr := hbo3.trans (hb3r.mono hbo3.size)
    have hbw := hbwr.trans (hbor.mono hbwr.size)
    have u0 := hX.out.cell (i := 0) (by omega)
    have u1 := hX.out.cell (i := 1) (by omega)
    have u2 := hX.out.frozen 1
    simp only [cf, ↓reduceIte, Nat.one_ne_zero] at u0 u1
    by_cases hltj : j < O.length
    ·obtain ⟨bs, os, es, hbs, hcs⟩ := HI3.out.at_ hltj
     subst es
     obtain ⟨x, hx⟩ : ∃ x : Nat, nth O j = (x : Int) := ⟨(nth O j).toNat, by have := Horg.out j hltj; omega⟩
     have hxl : x < t.ops.length := by have := Horg.out j hltj; omega
     have d0 := (hb3r.cell (p := ⟨bs, os + j, none⟩) hbs).trans (hcs j hltj)
     rw [hx] at d0
     obtain ⟨bo, oo, Sp, cS, Te, de, ec, hbo, n0, n1, n2, n3, f2, n4, e3⟩ := HTA.out.ops.at2 hbw hxl
     dsimp only at ec
     subst ec
     obtain ⟨z0, y0, y1, y2, y3⟩ := id ((hbx1.up hbel).up hbor)
     dsimp only at y0 y1 y2 y3
     have gs : bs < wr.heap.size := by omega
     have gc : bo < wr.heap.size := by have := hbw.size; omega
     have j0 : (0 : Int) ≤ (j : Int) := by omega
     have j1 : (j : Int) < (O.length : Int) := by omega
     have x0 : (0 : Int) ≤ (x : Int) := by omega
     have x1 : (x : Int) < (t.ops.length : Int) := by omega
     have HM := Lib.hid (show mnC t O 1048576 (j + 1) = min y (opr t.ops x).cost by rw [mnC_succ, ← hy.out, hx]; simp)
     clear hcs hx n0 n1 n3 n4 f2 e3
     obtain ⟨Cx, hCx⟩ : ∃ C, (opr t.ops x).cost = C := ⟨_, rfl⟩
     rw [hCx] at n2 HM
     clear hCx
     go_wp2_with fail
     refine wp_region_G 8 (fun w' => w'.cell? ⟨w3.heap.size, 1, none⟩ = some (.int .i64 y) ∧ w'.cell? ⟨w.heap.size, 3, none⟩ = some (.slice (some ⟨bo, oo, none⟩) t.ops.length co) ∧ w'.cell? ⟨bo, oo + x * 4 + 1, none⟩ = some (.int .i64 Cx)) (by kernel_rfl) (⟨u1, y3, n2⟩) ?_
     intro hG0
     refine wpS1 0 hG0 ?_; intro hG1; clear hG0
     refine wpS2 1 hG1 ?_; intro hG2; clear hG1
     refine wpS1 2 hG2 ?_; intro hG3; clear hG2
     refine wpS2 3 hG3 ?_; intro hG4; clear hG3
     refine wpS1 4 hG4 ?_; intro hG5; clear hG4
     refine wpS1 5 hG5 ?_; intro hG6; clear hG5
     refine wpS1 6 hG6 ?_; intro hG7; clear hG6
     refine wpS2 7 hG7 ?_; intro hG8; clear hG7
     refine wpAnyG_ready (rs := [8]) (by kernel_rfl) (by simp) (AllG.cons rfl hG8 (fun K hK => ?_) AllG.nil)
     (go_simp)
     refine hK.out _ _ (Or.inl rfl) (fun hG9 => wpN ?_); clear hK hG8
     refine wpS1 9 hG9 ?_; intro hG10; clear hG9
     refine wpAnyG_ready (rs := [10]) (by kernel_rfl) (by simp) (AllG.cons rfl hG10 (fun K hK => ?_) AllG.nil)
     (go_simp)
     refine hK.out _ _ (Or.inl rfl) (fun hG11 => wpN ?_); clear hK hG10
     refine wpAnyG_done (by kernel_rfl) ?_ _; clear hG11
     go_wp2
     go_roundw
     case rel => exact ⟨j + 1, min y Cx, by omega, by go_num, Lib.hid HM.out.symm, Lib.hid (row_up ((hX.out.set 1 (.int .i64 (min y Cx))).congr (g := cf (some ⟨bs, os, none⟩) O.length c3 (min y Cx)) (fun i hi => by unfold cf; rcases i with _ | _ | i <;> first | rfl | exact absurd hi (by omega))) (Below.refl _ _).drew), Lib.hid (by show _ < (World.setCell _ _ _).heap.size; simpa [World.setCell] using hzr), (hb3r.setCell (p := ⟨w3.heap.size, 1, none⟩) (Nat.le_refl _) _).drew⟩
     case measure => simp [intOf]; omega
    ·obtain rfl : j = O.length := by omega
     obtain ⟨wp, rfl⟩ : ∃ wp : World, wp = wr := ⟨_, rfl⟩
     go_wp2
     go_loopw [16, 62] (fun v i wr => ∃ (i' : Nat), i' ≤ (cuN t s F 1048576 k).length ∧ i = .int .i64 i' ∧ v = .bool (thB (cuN t s F 1048576 k) O i') ∧ Below wp.heap.size wp wr) (fun _ i _ => (cuN t s F 1048576 k).length - (intOf i).toNat)
     case atStart => exact ⟨0, by omega, rfl, rfl, Below.refl _ _⟩
     case round =>
      obtain ⟨m, hm, rfl, rfl, hbp⟩ := hrel
      have hbpz := hbp.size
      have hbor2 := hbor.trans (hbp.mono hbor.size)
      have hb3r2 := hb3r.trans (hbp.mono hb3r.size)
      by_cases hltm : m < (cuN t s F 1048576 k).length
      ·obtain ⟨b4, o4, S4, c4, e4, hb4, d4, hI4, d5⟩ := HC0.out.at2 hbor2 hltm
       subst e4
       have g4 : b4 < wr.heap.size := by have := hbor2.size; omega
       have m0 : (0 : Int) ≤ (m : Int) := by omega
       have m1 : (m : Int) < ((cuN t s F 1048576 k).length : Int) := by omega
       have HS : Hid (thB (cuN t s F 1048576 k) O (m + 1) = (thB (cuN t s F 1048576 k) O m || decide ((cut (cuN t s F 1048576 k) m).ops = O))) := anyB_succ _ _
       have hl4 := hI4.len
       have hbC : Below wr.heap.size wr (wr.alloc (.cells #[.slice S4 (cut (cuN t s F 1048576 k) m).ops.length c4, .int .i64 (cut (cuN t s F 1048576 k) m).cost] 41)) := (Below.refl _ _).alloc (Nat.le_refl _) _
       have K5 := Lib.hid (bints_any (cut (cuN t s F 1048576 k) m).ops O S4 S c4 c3 _ ((hI4.up hbor2).up hbC) ((HI3.out.up hb3r2).up hbC))
       clear hI4
       cases e6 : thB (cuN t s F 1048576 k) O m
       ·have Hs := Lib.hid (show thB (cuN t s F 1048576 k) O (m + 1) = decide ((cut (cuN t s F 1048576 k) m).ops = O) by rw [HS.out, e6]; rfl)
        obtain ⟨D, hD⟩ : ∃ D, decide ((cut (cuN t s F 1048576 k) m).ops = O) = D := ⟨_, rfl⟩
        rw [hD] at K5 Hs
        clear HS e6 hD
        go_wp2_with fail
        refine K5.out.mono ?_
        rintro e w8 ⟨rfl, hb8⟩
        have hbr8 := hbC.trans (hb8.mono (by simp))
        go_wp2
        go_roundw
        case rel => exact ⟨m + 1, by omega, by go_num, by rw [Hs.out], hbp.trans (hbr8.mono hbpz)⟩
        case measure => simp [intOf]; omega
       ·have Hs := Lib.hid (show thB (cuN t s F 1048576 k) O (m + 1) = true by rw [HS.out, e6]; rfl)
        clear HS e6 K5
        go_wp2
        go_roundw
        case rel => exact ⟨m + 1, by omega, by go_num, by rw [Hs.out], hbp.trans (hbC.mono hbpz)⟩
        case measure => simp [intOf]; omega
      ·obtain rfl : m = (cuN t s F 1048576 k).length := by omega
       have hb1r := hb13.trans (hb3r2.mono hb13.size)
       have hz1r := hb1r.size
       cases e6 : thB (cuN t s F 1048576 k) O (cuN t s F 1048576 k).length
       ·have Hs := Lib.hid (Hno.out e6)
        obtain ⟨xs, ho, hx⟩ := Hrw.out.up hbor2
        have hne : IntsNe wr (Value.slice A0 (cuN t s F 1048576 k).length c0).ownBlock S O := ⟨HI3.out.up hb3r2, fun a e _ e2 => by
         obtain ⟨_, ho1, _⟩ := Hrw.out
         have h1 := (ho1.lt a.block e2.symm).2
         have h2 := Hl3.out a e
         omega⟩
        have HN := Lib.hid hne
        have Ho := Lib.hid ho
        have Hx := Lib.hid hx
        have hX2 := row_up hX.out hbp
        have v0 := hX2.cell (i := 0) (by omega)
        have v1 := hX2.cell (i := 1) (by omega)
        simp only [cf, ↓reduceIte, Nat.one_ne_zero] at v0 v1
        have v2 : w3.heap.size < wr.heap.size := by omega
        clear ho hx hne Hyes Hno e6 hX2 u0 u1
        go_wp2_with (at_builtin; refine wpList_push rfl _ _ 42 rfl w1.heap.size 41 inf (.agg #[.slice none 0 0, .int .i64 0]) 2 32 undCu hi iz0 iz1 iz2 rfl (by decide) (by decide) _ (cuN t s F 1048576 k).length xs rfl (Ho.out.alloc _) wr.heap.size 41 [.slice S O.length c3, .int .i64 y] rfl rfl (heap_alloc_new _ _) (two_one rfl rfl) (by omega) (by first | omega | (simp; omega)) (B := w1.heap.size) (W := w1) (hb1r.alloc hz1r _) (Nat.le_refl _) ?_; intro v' w8 hown' hgrow hat hbw8; have Hown := Lib.hid hown'; have Hgrow := Lib.hid hgrow; have Hat := Lib.hid hat; clear hown' hgrow hat)
        have Hrow8 := Lib.hid (CuRow.push (Ho.out.alloc (.cells #[.slice S O.length c3, .int .i64 y] 41)) (fun i hi => by obtain ⟨S', c', h1, h2, h3⟩ := Hx.out i hi; exact ⟨S', c', h1, h2.up ((Below.refl _ _).alloc (Nat.le_refl _) _), h3⟩) (u := ⟨O, y⟩) (S := S) (c := c3) (HN.out.up ((Below.refl _ _).alloc (Nat.le_refl _) _)) Hgrow.out Hat.out Hown.out)
        go_wp2
        go_roundw
        case rel => exact ⟨k + 1, by omega, by go_num, Lib.hid (by rw [Hs.out, ← hy.out]; exact Hrow8.out), hbw8⟩
        case measure => simp [intOf]; omega
       ·have Hs := Lib.hid (Hyes.out e6)
        clear Hyes Hno e6
        go_wp2
        go_roundw
        case rel => exact ⟨k + 1, by omega, by go_num, Lib.hid (by rw [Hs.out]; exact Hrw.out.up hbor2), hb1r⟩
        case measure => simp [intOf]; omega
  ·obtain rfl : k = F.length := by omega
   have HP : Hid (GotCs wr (.slice A0 (cuN t s F 1048576 F.length).length c0) (cuL t s)) := Lib.hid (by rw [← Hsame.out]; exact ⟨A0, c0, rfl, hA0, HC0.out⟩)
   clear hrow
   go_wp2
   refine bodyPost_ret (v := .tuple #[.slice A0 (cuN t s F 1048576 F.length).length c0, .int .i64 0]) (by simp [results, Tryz.results20, go_sem]) rfl ⟨⟨_, by rw [Hc.out], HP.out⟩, hbwr⟩

end Go.Proofs.YtaampjhdgeoicaaGreat

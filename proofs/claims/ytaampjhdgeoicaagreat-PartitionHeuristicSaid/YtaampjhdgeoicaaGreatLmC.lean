/- landmark.New. -/
import Derived.Test.YtaampjhdgeoicaaGreatMfA
import Derived.Test.YtaampjhdgeoicaaGreatMtF
namespace Go.Proofs.YtaampjhdgeoicaaGreat
set_option linter.unusedSimpArgs false
set_option linter.unusedVariables false
open Go Go.RowKit
set_option linter.unusedVariables false

theorem own_apt2 {w : World} {B1 B2 s1 s2 n1 n2 : Nat} {e1 e2 : TypeId} {v1 v2 : Value} {x1 x2 : List Value} (h1 : w.ownsRow B1 e1 s1 v1 n1 x1) (h2 : w.ownsRow B2 e2 s2 v2 n2 x2) (hne : e1 ≠ e2) : Apt v1 v2 := by
 rcases h1.2 with ⟨rfl, _⟩ | ⟨g, cap, cur, rfl, _, hg, _⟩
 ·exact .inl rfl
 ·refine .inr fun e => ?_
  have := ne_own h2 hg hne
  exact this e
theorem heap_two (w : World) (A o : Obj) : ((w.alloc A).alloc o).drew.heap[w.heap.size + 1]? = some o := by
 have := heap_alloc_new (w.alloc A) o
 rw [World.size_alloc] at this
 exact this
theorem LstB.grown {w w' : World} {lo B n s : Nat} {vl vc : Value} {l : List Un} {e : TypeId} {xs : List Value} (h : LstB w lo vl l) (ho : w.ownsRow B e s vc n xs) (hg : w.grownBy w' vc.ownBlock) (h1 : 82 ≠ e) (h2 : 75 ≠ e) : LstB w' lo vl l := by
 obtain ⟨ys, a, b⟩ := h
 exact ⟨ys, a.kept hg (own_apt2 a ho h1), b.of fun b cur _ hb => hg.block b (Array.getElem?_eq_some_iff.1 hb).1 (ne_own ho hb h2)⟩
theorem LstB.far {w : World} {lo : Nat} {vl : Value} {l : List Un} {p : Addr} (h : LstB w lo vl l) (hp : p.block < lo) (u : Value) : LstB (w.setCell p u) lo vl l := by
 obtain ⟨ys, a, b⟩ := h
 exact ⟨ys, own_set a hp, b.of fun b cur hl _ => Below.heap_setCell _ _ _ _ (by omega)⟩
def NewRet (t : Tsk) (w : World) (e : Ending) (w' : World) : Prop := ∃ G q, e = .returned (.tuple #[.pointer (some ⟨G, 0, none⟩), .nilIface]) ∧ FindAt w' G t q

set_option maxRecDepth 100000 in
set_option maxHeartbeats 8000000 in
theorem new_no (t : Tsk) (p : Lies) (w : World) (ht : TaskAt w w.heap.size t p) (e0 : chkC t ≠ 0) :
  Calls Tryz.prog 12 #[TaskV t p] w fun e w' => e = .returned (.tuple #[.pointer none, .iface 49 (.int .i64 (chkC t))]) ∧ Below w.heap.size w w' := by
 have k1 := fun w1 (hb : Below w.heap.size w w1) => tcheck_any t p w1 (ht.up hb)
 obtain ⟨av, ai, ag, ao, cv, ci, cg, co⟩ := p
 unfold TaskV at *
 dsimp only at *
 have He := Lib.hid (show erV (chkC t) = .iface 49 (.int .i64 (chkC t)) by unfold erV; rw [if_neg e0])
 simp only [He.out] at k1
 clear e0
 go_enter Tryz.func12, Tryz.ntmps12
 go_wp2_with fail; refine (k1 _ (by exact bel)).mono ?_; rintro e w1 ⟨rfl, hb1⟩; obtain ⟨hc1, hf1, hz1, hlt1, hle1⟩ := cellsIf hb1 (by (try simp); exact rfl); (try have := s00 w w1); (try have := s01 w w1); (try have := s02 w w1); (try have := s10 w w1); (try have := s11 w w1); (try have := s12 w w1); (try have := s20 w w1); (try have := s21 w w1); (try have := s22 w w1)
 go_wp2
 refine bodyPost_ret (v := .tuple #[.pointer none, .iface 49 (.int .i64 (chkC t))]) (by simp [results, Tryz.results12, go_sem]) rfl ⟨rfl, by exact bel⟩

set_option maxRecDepth 100000 in
set_option maxHeartbeats 16000000 in
theorem k_new_any (t : Tsk) (p : Lies) (w : World) (ht : TaskAt w w.heap.size t p) (e0 : chkC t = 0) :
  Calls Tryz.prog 12 #[TaskV t p] w fun e w' => NewRet t w e w' ∧ Below w.heap.size w w' := by
 have k1 := fun w1 (hb : Below w.heap.size w w1) => tcheck_any t p w1 (ht.up hb)
 have hr := right_of e0
 have n64 := hr.nv
 have g64 := hr.ng
 have o64 := hr.no
 have k2 := fun w1 (hb : Below w.heap.size w w1) => k_clone_any t.vars p.av p.cv w1 (ht.vars.up hb) (by omega)
 have k3 := fun w1 (hb : Below w.heap.size w w1) => cloneF_any t.goal p.ag p.cg w1 (ht.goal.up hb) (by omega)
 have k4 := fun w1 (l : List (Int × Int)) (A : Option Addr) (c : Nat) (h : FactsAt w1 w1.heap.size A l) (hl : l.length ≤ 1000000) => cloneF_any l A c w1 h hl
 have HR := Lib.hid hr
 obtain ⟨av, ai, ag, ao, cv, ci, cg, co⟩ := p
 unfold TaskV at *
 dsimp only at *
 simp only [e0, erV_0] at k1
 clear e0 hr
 have K2 := Lib.hid k2
 have K3 := Lib.hid k3
 have K4 := Lib.hid k4
 clear k2 k3 k4
 obtain ⟨inf, hi, iz0, iz1, iz2⟩ := info_parts infoI8
 obtain ⟨ing, hjf, jz0, jz1, jz2⟩ := info_parts infoF8
 obtain ⟨inu, hu, uz0, uz1, uz2⟩ := info_parts infoU8
 go_enter Tryz.func12, Tryz.ntmps12
 go_wp2_with fail; refine (k1 _ (by exact bel)).mono ?_; rintro e w1 ⟨rfl, hb1⟩; obtain ⟨hc1, hf1, hz1, hlt1, hle1⟩ := cellsIf hb1 (by (try simp); exact rfl); (try have := s00 w w1); (try have := s01 w w1); (try have := s02 w w1); (try have := s10 w w1); (try have := s11 w w1); (try have := s12 w w1); (try have := s20 w w1); (try have := s21 w w1); (try have := s22 w w1)
 have hbx1 : Boxed w1 w.heap.size t ⟨av, ai, ag, ao, cv, ci, cg, co⟩ := Boxed.up (by constructor <;> simp) hb1
 have hbw1 : Below w.heap.size w w1 := by exact bel
 have z1 := hbw1.size
 clear hc1 hf1 hlt1 hle1 hb1 hz1
 obtain ⟨z0, y0, y1, y2, y3⟩ := id hbx1
 dsimp only at y0 y1 y2 y3
 go_wp2_with fail
 refine wp_region_G 5 (fun w' => ∀ b o, w'.cell? ⟨b, o, none⟩ = if b < w1.heap.size then w1.cell? ⟨b, o, none⟩ else hidC w' b o) (by kernel_rfl) (cif (B := w1.heap.size) (W := w1) (Below.refl _ _).drew) ?_
 intro hG0
 refine wpS1 0 hG0 ?_; intro hG1; clear hG0
 refine wpS2 1 hG1 ?_; intro hG2; clear hG1
 refine wpS1 3 hG2 ?_; intro hG3; clear hG2
 refine wpS2 4 hG3 ?_; intro hG4; clear hG3
 refine wpAnyG_ready (rs := [2]) (by kernel_rfl) (by simp) (AllG.cons rfl hG4 (fun K hK => ?_) AllG.nil)
 (go_simp; go_at_call 29; refine (K2.out _ (by exact bel)).mono ?_; rintro e w2 ⟨⟨v2, rfl, ho2⟩, hb2⟩; have hb12 : Below w1.heap.size w1 w2 := (Below.refl _ _).drew.trans hb2; have z2 := hb12.size; clear hb2; obtain ⟨A2, c2, rfl, q2, hA2⟩ := own_got ho2 (by omega); clear ho2)
 refine hK.out _ _ (Or.inr (cif hb12)) (fun hG5 => wpN ?_); clear hK hG4
 refine wpAnyG_ready (rs := [5]) (by kernel_rfl) (by simp) (AllG.cons rfl hG5 (fun K hK => ?_) AllG.nil)
 (go_simp; go_at_call 30; refine (K3.out _ (hbw1.trans (hb12.mono z1))).mono ?_; rintro e w3 ⟨⟨v3, rfl, ho3⟩, hb3⟩; obtain ⟨A3, c3, rfl, hA3⟩ := faB_own (lo := 0) ho3 (Nat.zero_le _) (by omega); clear ho3)
 refine hK.out _ _ (Or.inl rfl) (fun hG6 => wpN ?_); clear hK hG5
 refine wpS1 6 hG6 ?_; intro hG7; clear hG6
 refine wpAnyG_ready (rs := [7]) (by kernel_rfl) (by simp) (AllG.cons rfl hG7 (fun K hK => ?_) AllG.nil)
 (go_simp)
 refine hK.out _ _ (Or.inl rfl) (fun hG8 => wpN ?_); clear hK hG7
 refine wpS1 8 hG8 ?_; intro hG9; clear hG8
 refine wpAnyG_done (by kernel_rfl) ?_ _; clear hG9
 have hb13 := hb12.trans (hb3.mono z2)
 have hA2' := hA2.up hb3
 have hA3' := hA3.at_
 have hbw3 := hbw1.trans (hb13.mono z1)
 have hbx3 := hbx1.up hb13
 have z3 := hbw3.size
 have HA2 := Lib.hid hA2'
 have HA3 := Lib.hid hA3'
 clear hA2 hA3 hA2' hA3' z0 y0 y1 y2 y3 hbx1 hb12 hb3
 obtain ⟨z0, y0, y1, y2, y3⟩ := id hbx3
 dsimp only at y0 y1 y2 y3
 go_wp2
 go_loopw [26] (fun i wr => ∃ (k : Nat) (vc vl : Value), k ≤ t.ops.length ∧ i = .int .i64 k ∧ Box4 wr w3.heap.size (.slice A2 t.vars.length c2) (.slice A3 t.goal.length c3) vc vl ∧ Hid (wr.ownsRow (w3.heap.size + 1) 3 1 vc (cosN t k).length (ic (cosN t k))) ∧ Hid (LstB wr (w3.heap.size + 1) vl (usN t k)) ∧ Below w3.heap.size w3 wr) (fun i _ => t.ops.length - (intOf i).toNat)
 case atStart => exact ⟨0, _, _, by omega, rfl, Box4.new _ _ _ _ _ _, Lib.hid (World.ownsRow_nil _ _ _ _), Lib.hid (LstB.nil _ _), by exact bel⟩
 case round =>
  clear z0 y0 y1 y2 y3
  obtain ⟨k, vc, vl, hk, rfl, hbox, hoc, hol, hb3r⟩ := hrel
  obtain ⟨wt, rfl⟩ : ∃ wt : World, wt = wr := ⟨_, rfl⟩
  obtain ⟨z0, y0, y1, y2, y3⟩ := id (hbx3.up hb3r)
  obtain ⟨x0, x1, x2, x3, x4, x5⟩ := id hbox
  dsimp only at y0 y1 y2 y3
  have hbz := hb3r.size
  have hbel : Below w.heap.size w wt := hbw3.trans (hb3r.mono z3)
  by_cases hlt : k < t.ops.length
  ·obtain ⟨b, o, S, cS, T, d, ea, hb, n0, n1, n2, n3, f2, n4, e3⟩ := ht.ops.at2 hbel hlt
   dsimp only at ea
   subst ea
   have g2 : b < wt.heap.size := by omega
   have j1 := f2.len
   have j2 := e3.len
   have npr := HR.out.np k hlt
   have nef := HR.out.ne k hlt
   have HF2 := Lib.hid (f2.up hbel)
   have k0 : (0 : Int) ≤ (k : Int) := by omega
   have k1 : (k : Int) < (t.ops.length : Int) := by omega
   have hcl := cosN_len t k
   have Hcl := Lib.hid hcl
   have lt3 : w3.heap.size < wt.heap.size := x0
   have hG2 : vc.ownBlock ≠ some w3.heap.size := own_low hoc.out (.inr (Nat.lt_succ_self _))
   have hP2 : vc.ownBlock ≠ some wt.heap.size := own_low hoc.out (.inl (Nat.le_refl _))
   have hPl : vl.ownBlock ≠ some wt.heap.size := by obtain ⟨xs, ho, _⟩ := hol.out; exact own_low ho (.inl (Nat.le_refl _))
   have HPl := Lib.hid hPl
   clear hPl
   have hboxA := hbox.alloc (.cells #[.string (opr t.ops k).name, .int .i64 (opr t.ops k).cost, .slice S (opr t.ops k).pre.length cS, .slice T (opr t.ops k).effs.length d] 55)
   have hopA := Box4.new wt 55 (.string (opr t.ops k).name) (.int .i64 (opr t.ops k).cost) (.slice S (opr t.ops k).pre.length cS) (.slice T (opr t.ops k).effs.length d)
   have hocA := hoc.out.alloc (.cells #[.string (opr t.ops k).name, .int .i64 (opr t.ops k).cost, .slice S (opr t.ops k).pre.length cS, .slice T (opr t.ops k).effs.length d] 55)
   have hb3A : Below w3.heap.size w3 (wt.alloc (.cells #[.string (opr t.ops k).name, .int .i64 (opr t.ops k).cost, .slice S (opr t.ops k).pre.length cS, .slice T (opr t.ops k).effs.length d] 55)) := hb3r.alloc hbz _
   have holA := hol.out.up ((Below.refl wt.heap.size wt).alloc (Nat.le_refl _) (.cells #[.string (opr t.ops k).name, .int .i64 (opr t.ops k).cost, .slice S (opr t.ops k).pre.length cS, .slice T (opr t.ops k).effs.length d] 55))
   have HolA := Lib.hid holA
   have HboxA := Lib.hid hboxA
   have HopA := Lib.hid hopA
   have HocA := Lib.hid hocA
   have Hb3A := Lib.hid hb3A
   clear hcl hboxA hopA hocA hb3A holA
   go_wp2_with fail
   refine wp_region_G 8 (fun w' => ∀ b o, w'.cell? ⟨b, o, none⟩ = if b < wt.heap.size + 1 then (wt.alloc (.cells #[.string (opr t.ops k).name, .int .i64 (opr t.ops k).cost, .slice S (opr t.ops k).pre.length cS, .slice T (opr t.ops k).effs.length d] 55)).cell? ⟨b, o, none⟩ else hidC w' b o) (by kernel_rfl) (cif (B := wt.heap.size + 1) (Below.refl _ _).drew) ?_
   intro hG0
   refine wpS1 0 hG0 ?_; intro hG1; clear hG0
   refine wpS1 1 hG1 ?_; intro hG2; clear hG1
   refine wpS1 2 hG2 ?_; intro hG3; clear hG2
   refine wpS1 3 hG3 ?_; intro hG4; clear hG3
   refine wpS2 4 hG4 ?_; intro hG5; clear hG4
   refine wpS1 5 hG5 ?_; intro hG6; clear hG5
   refine wpS2 6 hG6 ?_; intro hG7; clear hG6
   refine wpAnyG_ready (rs := [7]) (by kernel_rfl) (by simp) (AllG.cons rfl hG7 (fun K hK => ?_) AllG.nil)
   (go_simp)
   refine hK.out _ _ (Or.inr (cif (by exact bel))) (fun hG8 => wpN ?_); clear hK hG7
   refine wpAnyG_ready (rs := [8]) (by kernel_rfl) (by simp) (AllG.cons rfl hG8 (fun K hK => ?_) AllG.nil)
   (refine step_append_srn (by rfl) _ _ 22 (by rfl) (w3.heap.size + 1) 3 inf (.int .i64 0) 1 8 undI8 hi iz0 iz1 iz2 rfl (by decide) vc (cosN t k).length (ic (cosN t k)) (by rfl) (by exact HocA.out.alloc _) (some ⟨wt.heap.size + 1, 0, none⟩) 1 1 [.int .i64 (opr t.ops k).cost] (by rfl) (src_ofN (T := 3) (by exact heap_two _ _ _) rfl (one_one rfl)) (by unfold maxLen; have := Hcl.out; omega) (by have := Hcl.out; omega) (by first | (simp; done) | (simp; omega)) ?_; intro v8 w8 ho8 hg8 hat8; have box8 : Box4 w8 w3.heap.size (.slice A2 t.vars.length c2) (.slice A3 t.goal.length c3) vc vl := ((HboxA.out.alloc _).drew).of_block hg8.size (hg8.block _ ((HboxA.out.alloc _).drew).lt hG2.symm); have op8 : Box4 w8 wt.heap.size _ _ _ _ := ((HopA.out.alloc _).drew).of_block hg8.size (hg8.block _ ((HopA.out.alloc _).drew).lt hP2.symm); have l8 := LstB.grown (HolA.out.up (((Below.refl _ _).alloc (Nat.le_refl _) _).drew)) (own_below HocA.out (((Below.refl _ _).alloc (Nat.le_refl _) _).drew)) hg8 (by decide) (by decide); have hb8 : Below w3.heap.size w3 w8 := Below.grown (((hb3r.alloc hbz _).alloc (by simp; omega) _).drew) hg8 (by first | (simp; done) | (simp; omega)) (fun g h => by have := (hoc.out.lt g h).1; omega); have hP8 : v8.ownBlock ≠ some wt.heap.size := (by rcases hat8 with h | h <;> rw [h]; exact hP2; (simp; omega)); have z8 := hb8.size; have zp8 := op8.lt; obtain ⟨A8, c8, rfl⟩ := own_shape ho8; obtain ⟨r0, r1, r2, r3, r4, r5⟩ := id box8; have L8 := Lib.hid l8; have O8 := Lib.hid ho8; have P8 := Lib.hid op8; clear l8 ho8 hg8 hat8 op8)
   refine hK.out _ _ (Or.inl rfl) (fun hG9 => wpN ?_); clear hK hG8
   refine wpS1 9 hG9 ?_; intro hG10; clear hG9
   refine wpS1 10 hG10 ?_; intro hG11; clear hG10
   refine wpAnyG_ready (rs := [11]) (by kernel_rfl) (by simp) (AllG.cons rfl hG11 (fun K hK => ?_) AllG.nil)
   (go_simp)
   refine hK.out _ _ (Or.inl rfl) (fun hG12 => wpN ?_); clear hK hG11
   refine wpAnyG_done (by kernel_rfl) ?_ _; clear hG12
   have box9 := box8.set2 (.slice A8 ((cosN t k).length + 1) c8)
   have op9 := P8.out.far (p := ⟨w3.heap.size, 2, none⟩) (.slice A8 ((cosN t k).length + 1) c8) (by show wt.heap.size ≠ w3.heap.size; omega)
   have o9 := own_set (u := .slice A8 ((cosN t k).length + 1) c8) (p := ⟨w3.heap.size, 2, none⟩) O8.out (Nat.lt_succ_self _)
   have l9 := L8.out.far (p := ⟨w3.heap.size, 2, none⟩) (Nat.lt_succ_self _) (.slice A8 ((cosN t k).length + 1) c8)
   have hb9 : Below w3.heap.size w3 (w8.setCell ⟨w3.heap.size, 2, none⟩ (.slice A8 ((cosN t k).length + 1) c8)) := hb8.setCell (Nat.le_refl _) _
   have hs9 : (w8.setCell ⟨w3.heap.size, 2, none⟩ (.slice A8 ((cosN t k).length + 1) c8)).heap.size = w8.heap.size := by simp [World.setCell]
   clear r0 r1 r2 r3 r4 r5 x0 x1 x2 x3 x4 x5 z0 y0 y1 y2 y3 L8 O8 P8 box8 HboxA HopA HocA HolA Hb3A hbox hoc hol
   obtain ⟨w9, hw9⟩ : ∃ w9, w9 = w8.setCell ⟨w3.heap.size, 2, none⟩ (.slice A8 ((cosN t k).length + 1) c8) := ⟨_, rfl⟩
   rw [← hw9] at box9 op9 o9 l9 hb9 hs9
   rw [← hw9]
   clear hw9
   rw [show (cosN t k).length + 1 = (cosN t (k + 1)).length by rw [cosN_len, cosN_len]] at o9 box9
   obtain ⟨p0, p1, p2, p3, p4, p5⟩ := id op9
   have HO9 := Lib.hid o9
   have HL9 := Lib.hid l9
   clear o9 l9
   go_wp2
   have hpsz : wt.heap.size < w9.heap.size := op9.lt
   go_loopw [45] (fun i wr => ∃ (j : Nat) (ve : Value), j ≤ (opr t.ops k).effs.length ∧ i = .int .i64 j ∧ Box4 wr w3.heap.size (.slice A2 t.vars.length c2) (.slice A3 t.goal.length c3) (.slice A8 (cosN t (k + 1)).length c8) ve ∧ Hid (wr.ownsRow (w3.heap.size + 1) 3 1 (.slice A8 (cosN t (k + 1)).length c8) (cosN t (k + 1)).length (ic (cosN t (k + 1)))) ∧ Hid (LstB wr (w3.heap.size + 1) ve (usK t k j)) ∧ Box4 wr wt.heap.size (.string (opr t.ops k).name) (.int .i64 (opr t.ops k).cost) (.slice S (opr t.ops k).pre.length cS) (.slice T (opr t.ops k).effs.length d) ∧ Hid (ve.ownBlock ≠ some wt.heap.size) ∧ Below w3.heap.size w3 wr) (fun i _ => (opr t.ops k).effs.length - (intOf i).toNat)
   case atStart => exact ⟨0, vl, by omega, rfl, box9, Lib.hid (by have := HO9.out; rw [ic_push, ← cosN_succ] at this; exact this), Lib.hid (by rw [usK_zero]; exact HL9.out), op9, HPl, hb9⟩
   case round =>
    clear p0 p1 p2 p3 p4 p5 box9 op9 hb9 hs9 HO9 HL9 hpsz
    obtain ⟨j, ve, hj, rfl, hbox, hoc, hol, hop, hPe, hb3q⟩ := hrel
    have hbzq := hb3q.size
    have hpsz : wt.heap.size < wr.heap.size := hop.lt
    have hbelr : Below w.heap.size w wr := hbw3.trans (hb3q.mono z3)
    by_cases hltj : j < (opr t.ops k).effs.length
    ·obtain ⟨b', o', S', c', ea', hb', i0, f5, i1, i2⟩ := e3.at2 hbelr hltj
     subst ea'
     have g3 : b' < wr.heap.size := by have := hbelr.size; omega
     have j3 := f5.len
     have nwh := HR.out.nw k hlt j hltj
     obtain ⟨x0, x1, x2, x3, x4, x5⟩ := id hbox
     obtain ⟨p0, p1, p2, p3, p4, p5⟩ := id hop
     have j0 : (0 : Int) ≤ (j : Int) := by omega
     have j4 : (j : Int) < ((opr t.ops k).effs.length : Int) := by omega
     have HF5 := Lib.hid f5
     obtain ⟨xs, ho, hus⟩ := hol.out
     have hul : (usK t k j).length ≤ 1000000 := by
      have h1 := usN_len (t := t) (fun k hk => HR.out.ne k hk) k (by omega)
      unfold usK
      rw [List.length_append, usO_len]
      omega
     have Ho := Lib.hid ho
     have Hus := Lib.hid hus
     clear ho hus hol
     have ltG : w3.heap.size < wr.heap.size := x0
     go_wp2_with fail
     refine wp_region_G 19 (fun w' => ∀ b o, w'.cell? ⟨b, o, none⟩ = if b < wr.heap.size + 1 then (wr.alloc (.cells #[.slice S' (eff (opr t.ops k).effs j).whn.length c', .int .i64 (eff (opr t.ops k).effs j).var, .int .i64 (eff (opr t.ops k).effs j).val] 80)).cell? ⟨b, o, none⟩ else hidC w' b o) (by kernel_rfl) (cif (B := wr.heap.size + 1) (Below.refl _ _).drew) ?_
     intro hG0
     refine wpS1 0 hG0 ?_; intro hG1; clear hG0
     refine wpS1 1 hG1 ?_; intro hG2; clear hG1
     refine wpS1 2 hG2 ?_; intro hG3; clear hG2
     refine wpS1 3 hG3 ?_; intro hG4; clear hG3
     refine wpS2 4 hG4 ?_; intro hG5; clear hG4
     refine wpS1 5 hG5 ?_; intro hG6; clear hG5
     refine wpS1 6 hG6 ?_; intro hG7; clear hG6
     refine wpS2 7 hG7 ?_; intro hG8; clear hG7
     refine wpS1 9 hG8 ?_; intro hG9; clear hG8
     refine wpS2 10 hG9 ?_; intro hG10; clear hG9
     refine wpS1 12 hG10 ?_; intro hG11; clear hG10
     refine wpS2 13 hG11 ?_; intro hG12; clear hG11
     refine wpS1 14 hG12 ?_; intro hG13; clear hG12
     refine wpS2 15 hG13 ?_; intro hG14; clear hG13
     refine wpS1 16 hG14 ?_; intro hG15; clear hG14
     refine wpAnyG_ready (rs := [8]) (by kernel_rfl) (by simp) (AllG.cons rfl hG15 (fun K hK => ?_) AllG.nil)
     (go_simp; go_at_call 30; refine (K4.out _ (opr t.ops k).pre S cS (f2.up ((hbelr.alloc (by have := hbelr.size; omega) _).drew)) (by omega)).mono ?_; rintro e w12 ⟨⟨v12, rfl, ho12⟩, hb12⟩; have hbA : Below (wr.heap.size + 1) (wr.alloc (.cells #[.slice S' (eff (opr t.ops k).effs j).whn.length c', .int .i64 (eff (opr t.ops k).effs j).var, .int .i64 (eff (opr t.ops k).effs j).val] 80)) w12 := (Below.refl _ _).drew.trans (hb12.mono (by show _ ≤ (wr.alloc _).heap.size; simp)); have zA : wr.heap.size + 1 ≤ w12.heap.size := (by have := hbA.size; simpa using this); have ho12' : w12.ownsRow (wr.heap.size + 1) 75 2 v12 (opr t.ops k).pre.length (fcl (opr t.ops k).pre) := own_base ho12 (by show _ ≤ (wr.alloc _).heap.size; simp); have Ho12 := Lib.hid ho12'; clear ho12 ho12' hb12)
     refine hK.out _ _ (Or.inr (cif hbA)) (fun hG16 => wpN ?_); clear hK hG15
     refine wpAnyG_ready (rs := [11]) (by kernel_rfl) (by simp) (AllG.cons rfl hG16 (fun K hK => ?_) AllG.nil)
     (refine step_append_srn (by rfl) _ _ 23 (by rfl) (wr.heap.size + 1) 75 ing (.agg #[.int .i64 0, .int .i64 0]) 2 16 undF8 hjf jz0 jz1 jz2 rfl (by decide) v12 (opr t.ops k).pre.length (fcl (opr t.ops k).pre) (by rfl) (by exact Ho12.out) S' (eff (opr t.ops k).effs j).whn.length c' (fcl (eff (opr t.ops k).effs j).whn) (by rfl) (facts_srn (HF5.out.up (((hbelr.alloc (by have := hbelr.size; omega) _).trans (hbA.mono (by have := hbelr.size; omega)))))) (by unfold maxLen; omega) (by omega) (by omega) ?_; intro v13 w13 ho13 hg13 hat13; have hb13 : Below (wr.heap.size + 1) (wr.alloc (.cells #[.slice S' (eff (opr t.ops k).effs j).whn.length c', .int .i64 (eff (opr t.ops k).effs j).var, .int .i64 (eff (opr t.ops k).effs j).val] 80)) w13 := hbA.grown hg13 (by omega) (fun g h => (Ho12.out.lt g h).1); have z13 : wr.heap.size + 1 ≤ w13.heap.size := (by have := hb13.size; simpa using this); have ho13' : w13.ownsRow (wr.heap.size + 1) 75 2 v13 ((opr t.ops k).pre ++ (eff (opr t.ops k).effs j).whn).length (fcl ((opr t.ops k).pre ++ (eff (opr t.ops k).effs j).whn)) := (by rw [List.length_append, fcl_app]; exact ho13); obtain ⟨A13, c13, rfl, hF13⟩ := faB_own (lo := w3.heap.size + 1) ho13' (by omega) (by rw [List.length_append]; omega); have HF13 := Lib.hid hF13; have hbr13 : Below wr.heap.size wr w13 := ((Below.refl _ _).alloc (Nat.le_refl _) _).trans (hb13.mono (Nat.le_succ _)); clear hF13 ho13 ho13' hg13 hat13)
     refine hK.out _ _ (Or.inr (cif hb13)) (fun hG17 => wpN ?_); clear hK hG16
     refine wpS1 17 hG17 ?_; intro hG18; clear hG17
     refine wpAnyG_ready (rs := [18]) (by kernel_rfl) (by simp) (AllG.cons rfl hG18 (fun K hK => ?_) AllG.nil)
     (go_simp)
     refine hK.out _ _ (Or.inr (cif (hb13.alloc z13 _))) (fun hG19 => wpN ?_); clear hK hG18
     refine wpAnyG_ready (rs := [19]) (by kernel_rfl) (by simp) (AllG.cons rfl hG19 (fun K hK => ?_) AllG.nil)
     (refine step_append_srn (by rfl) _ _ 76 (by rfl) (w3.heap.size + 1) 82 inu (.agg #[.int .i64 0, .slice none 0 0, .int .i64 0, .int .i64 0]) 4 48 undU8 hu uz0 uz1 uz2 rfl (by decide) ve (usK t k j).length xs (by rfl) (by exact own_below Ho.out (hbr13.alloc (by omega) (.cells #[.int .i64 (k : Int), .slice A13 ((opr t.ops k).pre.length + (eff (opr t.ops k).effs j).whn.length) c13, .int .i64 (eff (opr t.ops k).effs j).var, .int .i64 (eff (opr t.ops k).effs j).val] 82))) (some ⟨w13.heap.size, 0, none⟩) 1 1 [.int .i64 (k : Int), .slice A13 ((opr t.ops k).pre.length + (eff (opr t.ops k).effs j).whn.length) c13, .int .i64 (eff (opr t.ops k).effs j).var, .int .i64 (eff (opr t.ops k).effs j).val] (by rfl) (src_ofN (T := 82) (by exact heap_alloc_new _ _) rfl (four_one rfl rfl rfl rfl)) (by unfold maxLen; omega) (by omega) (by first | (simp; done) | (simp; omega)) ?_; intro v14 w14 ho14 hg14 hat14; have hbr14 : Below wr.heap.size wr (w13.alloc (.cells #[.int .i64 (k : Int), .slice A13 ((opr t.ops k).pre.length + (eff (opr t.ops k).effs j).whn.length) c13, .int .i64 (eff (opr t.ops k).effs j).var, .int .i64 (eff (opr t.ops k).effs j).val] 82)) := hbr13.alloc (by omega) _; have hPe' := hPe.out; have hGe : ve.ownBlock ≠ some w3.heap.size := own_low Ho.out (.inr (Nat.lt_succ_self _)); have box14 : Box4 w14 w3.heap.size _ _ _ ve := (hbox.up hbr14).of_block hg14.size (hg14.block _ (hbox.up hbr14).lt hGe.symm); have op14 : Box4 w14 wt.heap.size _ _ _ _ := (hop.up hbr14).of_block hg14.size (hg14.block _ (hop.up hbr14).lt hPe'.symm); have oc14 := (own_below hoc.out hbr14).kept hg14 (own_apt2 (own_below hoc.out hbr14) (own_below Ho.out hbr14) (by decide)); have hP14 : v14.ownBlock ≠ some wt.heap.size := (by rcases hat14 with h | h <;> rw [h]; exact hPe'; (simp; omega)); have l14 : LstB w14 (w3.heap.size + 1) v14 (usK t k (j + 1)) := ⟨_, by rw [usK_succ, List.length_append]; exact ho14, by rw [usK_succ]; have hpu := unIs_push (u := mkU t k j) (S := A13) (c := c13) (Hus.out.up hbr14) (Ho.out.1) (HF13.out.up ((Below.refl _ _).alloc (Nat.le_refl _) _)); rw [show (mkU t k j).needs.length = (opr t.ops k).pre.length + (eff (opr t.ops k).effs j).whn.length from List.length_append] at hpu; exact hpu.of (fun b cur _ hb => hg14.block b (Array.getElem?_eq_some_iff.1 hb).1 (ne_own (own_below Ho.out hbr14) hb (by decide)))⟩; have hb14 : Below w3.heap.size w3 w14 := Below.grown (hb3q.trans (hbr14.mono hbzq)) hg14 (by first | (simp; done) | (simp; omega)) (fun g h => by have := (Ho.out.lt g h).1; omega); obtain ⟨A14, c14, rfl⟩ := own_shape ho14; obtain ⟨r0, r1, r2, r3, r4, r5⟩ := id box14; have L14 := Lib.hid l14; have C14 := Lib.hid oc14; have O14 := Lib.hid op14; have P14 := Lib.hid hP14; have B14 := Lib.hid box14; clear l14 oc14 op14 hP14 ho14 hg14 hat14 hPe' hGe box14)
     refine hK.out _ _ (Or.inl rfl) (fun hG20 => wpN ?_); clear hK hG19
     refine wpS1 20 hG20 ?_; intro hG21; clear hG20
     refine wpS1 21 hG21 ?_; intro hG22; clear hG21
     refine wpAnyG_ready (rs := [22]) (by kernel_rfl) (by simp) (AllG.cons rfl hG22 (fun K hK => ?_) AllG.nil)
     (go_simp)
     refine hK.out _ _ (Or.inl rfl) (fun hG23 => wpN ?_); clear hK hG22
     refine wpAnyG_done (by kernel_rfl) ?_ _; clear hG23
     go_wp2
     go_roundw
     case rel => exact ⟨j + 1, _, by omega, by go_num, B14.out.set3 _, Lib.hid (own_set C14.out (Nat.lt_succ_self _)), Lib.hid (L14.out.far (Nat.lt_succ_self _) _), O14.out.far (p := ⟨w3.heap.size, 3, none⟩) _ (by show wt.heap.size ≠ w3.heap.size; omega), P14, hb14.setCell (Nat.le_refl _) _⟩
     case measure => simp [intOf]; omega
    ·obtain rfl : j = (opr t.ops k).effs.length := by omega
     have Hl := Lib.hid (show LstB wr (w3.heap.size + 1) ve (usN t (k + 1)) by rw [← usK_end]; exact hol.out)
     go_wp2
     go_roundw
     case rel => exact ⟨k + 1, _, ve, by omega, by go_num, hbox, hoc, Hl, hb3q⟩
     case measure => simp [intOf]; omega
  ·obtain rfl : k = t.ops.length := by omega
   obtain ⟨AC, cC, rfl, _, hC⟩ := own_got hoc.out (by rw [cosN_len]; omega)
   obtain ⟨AL, cL, rfl, hL⟩ := hol.out.done
   rw [cosN_len] at x3
   have Hf := Lib.hid (show FindAt wt w3.heap.size t ⟨A2, A3, AC, AL, c2, c3, cC, cL⟩ from ⟨x0, x1, x2, x3, x4, HA2.out.up hb3r, HA3.out.up hb3r, hC, hL⟩)
   clear hC hL hoc hol x1 x2 x3 x4 x5 hbox
   go_wp2
   refine bodyPost_ret (v := .tuple #[.pointer (some ⟨w3.heap.size, 0, none⟩), .nilIface]) (by simp [results, Tryz.results12, go_sem]) rfl ⟨⟨_, _, rfl, Hf.out⟩, hbel⟩

end Go.Proofs.YtaampjhdgeoicaaGreat

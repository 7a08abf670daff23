/- The law PartitionAdmissible. -/
import Derived.Test.YtaampjhdgeoicaaMfA
import Derived.Test.YtaampjhdgeoicaaAdW
import Derived.Test.YtaampjhdgeoicaaPartE
import Derived.Test.YtaampjhdgeoicaaGood
import Derived.Test.YtaampjhdgeoicaaDisW
namespace Go.Proofs.Ytaampjhdgeoicaa
set_option linter.unusedSimpArgs false
set_option linter.unusedVariables false
open Go Go.RowKit
set_option linter.unusedVariables false

set_option maxRecDepth 100000 in
set_option maxHeartbeats 8000000 in
theorem partitionAdmissible_any (t : Tsk) (p : Lies) (x : Int) (w : World) (ht : TaskAt w w.heap.size t p) (hx0 : 0 ≤ x) (hx1 : x ≤ 65535) :
    Calls Try.prog 5 #[TaskV t p, .int .u16 x] w fun e w' => e = .returned (.bool true) ∧ Below w.heap.size w w' := by
  have KA := Lib.hid awake38_any
  have ks := fun wx (h : Below w.heap.size w wx) => small_any t p wx (ht.up h)
  have HT := Lib.hid ht
  cases e1 : k_smB t
  · rw [e1] at ks
    have KS := Lib.hid ks
    obtain ⟨av, ai, ag, ao, cv, ci, cg, co⟩ := p
    unfold TaskV at *
    dsimp only at *
    clear ks ht e1
    go_enter Try.func5, Try.ntmps5
    go_wp2_with fail
    refine (KA.out _).mono ?_
    rintro e w3 ⟨rfl, hb3⟩
    have hbx0 : Boxed (w.alloc (.cells #[.slice av t.vars.length cv, .slice ai t.init.length ci, .slice ag t.goal.length cg, .slice ao t.ops.length co] 49)) w.heap.size t ⟨av, ai, ag, ao, cv, ci, cg, co⟩ := by constructor <;> simp
    have hbx := hbx0.up hb3
    have hbw : Below w.heap.size w w3 := ((Below.refl _ _).alloc (Nat.le_refl _) _).trans (hb3.mono (by simp))
    have z3 := hbw.size
    obtain ⟨z0, y0, y1, y2, y3⟩ := id hbx
    dsimp only at y0 y1 y2 y3
    clear hbx0 hb3
    go_wp2_with fail
    refine (KS.out _ hbw).mono ?_
    rintro e w4 ⟨rfl, hb4⟩
    have hbw4 := hbw.trans (hb4.mono z3)
    clear z0 y0 y1 y2 y3 hbx
    go_wp2_with fail
    refine (KA.out _).mono ?_
    rintro e w5 ⟨rfl, hb5⟩
    have hbw5 := hbw4.trans (hb5.mono hbw4.size)
    go_wp2
    go_ret
    exact ⟨rfl, hbw5⟩
  have hS := small_of e1
  rw [e1] at ks
  have KS := Lib.hid ks
  have KT := Lib.hid (fun wx (h : Below w.heap.size w wx) => bstates_any t.vars p.av p.cv wx (ht.vars.up h) hS.right.dom (by have := hS.many; omega) hS.right.nv)
  have KD := Lib.hid (fun wx (h : Below w.heap.size w wx) => bdist_any t p wx (ht.up h) hS)
  have KH := Lib.hid (fun s AS cs kind wx (h : Below w.heap.size w wx) (hs : IntsAt wx wx.heap.size AS s) (hst : stB t.vars s = true) (hk : kind = 1 ∨ kind = 2 ∨ kind = 3) => heur_any t p s AS cs kind wx (ht.up h) hs hS.chk hst hk (by have := hS.no; omega))
  have KG := Lib.hid (fun s AS cs wx (h : Below w.heap.size w wx) (hs : IntsAt wx wx.heap.size AS s) => bholds_any t.goal s p.ag AS p.cg cs wx (ht.goal.up h) hs)
  have HS := Lib.hid hS
  have hN := sts_len hS.right
  have hN2 := hS.many
  have hN1 : 1 ≤ (sts t.vars).length := by have := pr_pos (l := t.vars) (n := t.vars.length) (fun k hk => (hS.right.dom k hk).1); omega
  have hN3 : (sts t.vars).length ≤ 512 := by omega
  obtain ⟨N, hNN⟩ : ∃ N, N = (sts t.vars).length := ⟨_, rfl⟩
  have HNN := Lib.hid hNN
  rw [← hNN] at hN1 hN3
  obtain ⟨av, ai, ag, ao, cv, ci, cg, co⟩ := p
  unfold TaskV at *
  dsimp only at *
  clear ks ht e1 hS hN hN2 hNN
  go_enter Try.func5, Try.ntmps5
  go_wp2_with fail
  refine (KA.out _).mono ?_
  rintro e w3 ⟨rfl, hb3⟩
  have hbx0 : Boxed (w.alloc (.cells #[.slice av t.vars.length cv, .slice ai t.init.length ci, .slice ag t.goal.length cg, .slice ao t.ops.length co] 49)) w.heap.size t ⟨av, ai, ag, ao, cv, ci, cg, co⟩ := by constructor <;> simp
  have hbx := hbx0.up hb3
  have hbw : Below w.heap.size w w3 := ((Below.refl _ _).alloc (Nat.le_refl _) _).trans (hb3.mono (by simp))
  have z3 := hbw.size
  obtain ⟨X, hX⟩ : ∃ X, X = w.heap.size := ⟨_, rfl⟩
  rw [← hX] at hbx ⊢
  clear hX hbx0 hb3
  obtain ⟨z0, y0, y1, y2, y3⟩ := id hbx
  dsimp only at y0 y1 y2 y3
  go_wp2_with fail
  refine (KS.out _ hbw).mono ?_
  rintro e w4 ⟨rfl, hb4⟩
  have hbw4 := hbw.trans (hb4.mono z3)
  have z4 := hbw4.size
  have hbx4 := hbx.up hb4
  clear z0 y0 y1 y2 y3 hbx hb4 hbw z3
  obtain ⟨z0, y0, y1, y2, y3⟩ := id hbx4
  dsimp only at y0 y1 y2 y3
  go_wp2_with fail
  refine (KT.out _ hbw4).mono ?_
  rintro e w5 ⟨⟨v5, rfl, A5, c5, rfl, hR5⟩, hb5⟩
  rw [HNN.out.symm]
  have hbw5 := hbw4.trans (hb5.mono z4)
  have z5 := hbw5.size
  have hbx5 := hbx4.up hb5
  clear z0 y0 y1 y2 y3 hbx4 hb5 hbw4 z4
  obtain ⟨z0, y0, y1, y2, y3⟩ := id hbx5
  dsimp only at y0 y1 y2 y3
  have hm1 : x.tmod (N : Int) = ((x.toNat % N : Nat) : Int) := by
    rw [Int.tmod_eq_emod_of_nonneg hx0, Int.natCast_emod]
    rw [show ((x.toNat : Nat) : Int) = x by omega]
  have hm2 : x % (N : Int) = ((x.toNat % N : Nat) : Int) := by
    rw [Int.natCast_emod]
    rw [show ((x.toNat : Nat) : Int) = x by omega]
  obtain ⟨k, hk⟩ : ∃ k, k = x.toNat % N := ⟨_, rfl⟩
  have hkN : k < N := by rw [hk]; exact Nat.mod_lt _ (by omega)
  rw [← hk] at hm1 hm2
  have hN0 : ¬ (N : Int) = 0 := by omega
  have q1 : IntKind.i64.wrap x = x := IntWalk.i64_in _ (by omega)
  have q2 : IntKind.i64.wrap (k : Int) = (k : Int) := IntWalk.i64_in _ (by omega)
  have hR := Lib.hid hR5
  clear hk hR5
  go_wp2_with fail
  refine (KD.out _ hbw5).mono ?_
  rintro e w6 ⟨⟨g, D, rfl, hD, hBest⟩, hb6⟩
  rw [HNN.out.symm]
  have hbw6 := hbw5.trans (hb6.mono z5)
  have z6 := hbw6.size
  have hbx6 := hbx5.up hb6
  have hgl : g < w6.heap.size := World.rowIs.lt hD
  have HB := Lib.hid (hBest _ (sts_st HS.out.right (i := k) (by have := HNN.out; omega)))
  have HSt := Lib.hid (sts_st HS.out.right (i := k) (by have := HNN.out; omega))
  have hnum := num_row HS.out.right (i := k) (by have := HNN.out; omega)
  rw [hnum] at HB
  have dk := World.rowIs.cell hD (i := k) (by have := HNN.out; omega)
  obtain ⟨d, hd⟩ : ∃ d, d = D k := ⟨_, rfl⟩
  rw [← hd] at HB dk
  have k0 : (0 : Int) ≤ (k : Int) := by omega
  have k1 : (k : Int) < (N : Int) := by omega
  have HR6 := Lib.hid (fun wx (h : Below w6.heap.size w6 wx) => (RowsAt.up (RowsAt.up hR.out hb6) h : RowsAt wx wx.heap.size A5 (sts t.vars)))
  clear z0 y0 y1 y2 y3 hbx5 hb6 hD hBest hnum hd hR hm1 hm2 hN0 q1 q2
  obtain ⟨z0, y0, y1, y2, y3⟩ := id hbx6
  dsimp only at y0 y1 y2 y3
  go_wp2
  go_loopw [8] (fun v wr => ∃ q : Nat, 1 ≤ q ∧ q ≤ 4 ∧ v = .int .i64 q ∧ Below w6.heap.size w6 wr) (fun v _ => 4 - (intOf v).toNat)
  case atStart => exact ⟨1, by omega, by omega, rfl, Below.refl _ _⟩
  case round =>
    clear z0 y0 y1 y2 y3 dk
    obtain ⟨q, hq1, hq4, rfl, hbel⟩ := hrel
    obtain ⟨w7, hw7⟩ : ∃ w7 : World, w7 = wr := ⟨_, rfl⟩
    rw [← hw7] at hbel ⊢
    clear hw7
    have z7 := hbel.size
    have hbw7 := hbw6.trans (hbel.mono z6)
    have zw7 := hbw7.size
    by_cases hlt : q ≤ 3
    · have hq3 : (q : Int) ≤ 3 := by omega
      obtain ⟨b, eA, hb, hc⟩ := HR6.out _ hbel (by have := HNN.out; omega)
      obtain ⟨S, cS, d1, _, hI⟩ := hc k (by have := HNN.out; omega)
      subst eA
      have HI := Lib.hid hI
      have KHx := Lib.hid (fun wx (h : Below w7.heap.size w7 wx) => KH.out (row (sts t.vars) k) S cS (q : Int) wx (hbw7.trans (h.mono zw7)) (HI.out.up h) HSt.out (by omega))
      have KGx' := Lib.hid (fun wx (h : Below w7.heap.size w7 wx) => KG.out (row (sts t.vars) k) S cS wx (hbw7.trans (h.mono zw7)) (HI.out.up h))
      obtain ⟨rw_, hrw⟩ : ∃ r, r = row (sts t.vars) k := ⟨_, rfl⟩
      rw [← hrw] at d1 KHx KGx' HSt HB
      obtain ⟨z0, y0, y1, y2, y3⟩ := id (hbx6.up hbel)
      dsimp only at y0 y1 y2 y3
      clear hc hI hrw
      go_wp2_with fail
      refine wp_region_G 6 (fun w' => ∀ b o, w'.cell? ⟨b, o, none⟩ = if b < w7.heap.size then w7.cell? ⟨b, o, none⟩ else hidC w' b o) (by kernel_rfl) (cif (B := w7.heap.size) (W := w7) (Below.refl _ _).drew) ?_
      intro hG0
      refine wpS2 0 hG0 ?_; intro hG1; clear hG0
      refine wpS1 1 hG1 ?_; intro hG2; clear hG1
      refine wpS1 2 hG2 ?_; intro hG3; clear hG2
      refine wpS1 3 hG3 ?_; intro hG4; clear hG3
      refine wpS2 4 hG4 ?_; intro hG5; clear hG4
      refine wpS1 5 hG5 ?_; intro hG6; clear hG5
      refine wpAnyG_ready (rs := [6]) (by kernel_rfl) (by simp) (AllG.cons rfl hG6 (fun K hK => ?_) AllG.nil)
      (go_simp; go_at_call 21; refine (KHx.out _ (Below.refl _ _).drew).mono ?_; rintro e w8 ⟨⟨n, cd, hh, rfl⟩, hb8⟩; obtain ⟨rfl, hn0, hnd⟩ := heur_good HS.out.right (by have := HS.out.no; omega) HSt.out hh HB.out; rw [errV_0]; have hb78 : Below w7.heap.size w7 w8 := (Below.refl _ _).drew.trans hb8; clear hb8 hh)
      refine hK.out _ _ (Or.inl rfl) (fun hG7 => wpN ?_); clear hK hG6
      refine wpS1 7 hG7 ?_; intro hG8; clear hG7
      refine wpS1 8 hG8 ?_; intro hG9; clear hG8
      refine wpS1 9 hG9 ?_; intro hG10; clear hG9
      refine wpS1 10 hG10 ?_; intro hG11; clear hG10
      refine wpS1 11 hG11 ?_; intro hG12; clear hG11
      refine wpAnyG_done (by kernel_rfl) ?_ _; clear hG12
      have hb68 := hbel.trans (hb78.mono z7)
      have z68 := hb68.size
      have zb : b < w8.heap.size := by have := hb78.size; omega
      have d2 := (hb78.cell (p := ⟨b, k, none⟩) hb).trans d1
      clear z0 y0 y1 y2 y3 d1
      obtain ⟨z0, y0, y1, y2, y3⟩ := id ((hbx6.up hbel).up hb78)
      dsimp only at y0 y1 y2 y3
      have hn0' : ¬ n < 0 := by omega
      have hnd' : ¬ d < n := by omega
      go_wp2
      cases hho : hoB t.goal rw_
      · have KGx := Lib.hid (fun wx (h : Below w8.heap.size w8 wx) => (by have := KGx'.out wx (hb78.trans (h.mono (by have := hb78.size; omega))); rw [hho] at this; exact this : Calls Try.prog 22 #[.slice ag t.goal.length cg, .slice S rw_.length cS] wx fun e w' => e = .returned (.bool false) ∧ Below wx.heap.size wx w'))
        clear hho
        go_wp2_with fail
        refine wp_region_G 18 (fun w' => ∀ b o, w'.cell? ⟨b, o, none⟩ = if b < w8.heap.size then w8.cell? ⟨b, o, none⟩ else hidC w' b o) (by kernel_rfl) (cif (B := w8.heap.size) (W := w8) (Below.refl _ _).drew) ?_
        intro hG0
        refine wpS1 0 hG0 ?_; intro hG1; clear hG0
        refine wpS1 1 hG1 ?_; intro hG2; clear hG1
        refine wpS3 2 (.bool false) hG2 ?_; intro hG3; clear hG2
        refine wpS1 3 hG3 ?_; intro hG4; clear hG3
        refine wpS1 4 hG4 ?_; intro hG5; clear hG4
        refine wpS1 5 hG5 ?_; intro hG6; clear hG5
        refine wpS3 6 (.bool false) hG6 ?_; intro hG7; clear hG6
        refine wpS1 7 hG7 ?_; intro hG8; clear hG7
        refine wpS1 8 hG8 ?_; intro hG9; clear hG8
        refine wpS1 9 hG9 ?_; intro hG10; clear hG9
        refine wpS1 10 hG10 ?_; intro hG11; clear hG10
        refine wpS3 11 (.bool false) hG11 ?_; intro hG12; clear hG11
        refine wpS1 12 hG12 ?_; intro hG13; clear hG12
        refine wpS2 13 hG13 ?_; intro hG14; clear hG13
        refine wpS1 14 hG14 ?_; intro hG15; clear hG14
        refine wpS1 15 hG15 ?_; intro hG16; clear hG15
        refine wpS1 16 hG16 ?_; intro hG17; clear hG16
        refine wpS2 17 hG17 ?_; intro hG18; clear hG17
        refine wpAnyG_ready (rs := [18]) (by kernel_rfl) (by simp) (AllG.cons rfl hG18 (fun K hK => ?_) AllG.nil)
        refine (if_pos (by rfl)).mpr ?_
        (go_simp; go_at_call 22; refine (KGx.out _ (Below.refl _ _).drew).mono ?_; rintro e w9 ⟨rfl, hb9⟩; have hb69 := hb68.trans (((Below.refl _ _).drew.trans hb9).mono z68); clear hb9)
        refine hK.out _ _ (Or.inl rfl) (fun hG19 => wpN ?_); clear hK hG18
        refine wpS3 19 (.bool false) hG19 ?_; intro hG20; clear hG19
        refine wpS0 20 hG20 ?_; intro hG21; clear hG20
        refine wpS0 21 hG21 ?_; intro hG22; clear hG21
        refine wpS1 22 hG22 ?_; intro hG23; clear hG22
        refine wpS1 23 hG23 ?_; intro hG24; clear hG23
        refine wpAnyG_done (by kernel_rfl) ?_ _; clear hG24
        go_wp2
        go_roundw
        case rel => exact ⟨q + 1, by omega, by omega, by go_num, hb69⟩
        case measure => simp [intOf]; omega
      · have KGx := Lib.hid (fun wx (h : Below w8.heap.size w8 wx) => (by have := KGx'.out wx (hb78.trans (h.mono (by have := hb78.size; omega))); rw [hho] at this; exact this : Calls Try.prog 22 #[.slice ag t.goal.length cg, .slice S rw_.length cS] wx fun e w' => e = .returned (.bool true) ∧ Below wx.heap.size wx w'))
        have hd0 := HB.out.least 0 (PlanC.goal hho)
        have : n = 0 := by omega
        subst this
        clear hho
        go_wp2_with fail
        refine wp_region_G 18 (fun w' => ∀ b o, w'.cell? ⟨b, o, none⟩ = if b < w8.heap.size then w8.cell? ⟨b, o, none⟩ else hidC w' b o) (by kernel_rfl) (cif (B := w8.heap.size) (W := w8) (Below.refl _ _).drew) ?_
        intro hG0
        refine wpS1 0 hG0 ?_; intro hG1; clear hG0
        refine wpS1 1 hG1 ?_; intro hG2; clear hG1
        refine wpS3 2 (.bool false) hG2 ?_; intro hG3; clear hG2
        refine wpS1 3 hG3 ?_; intro hG4; clear hG3
        refine wpS1 4 hG4 ?_; intro hG5; clear hG4
        refine wpS1 5 hG5 ?_; intro hG6; clear hG5
        refine wpS3 6 (.bool false) hG6 ?_; intro hG7; clear hG6
        refine wpS1 7 hG7 ?_; intro hG8; clear hG7
        refine wpS1 8 hG8 ?_; intro hG9; clear hG8
        refine wpS1 9 hG9 ?_; intro hG10; clear hG9
        refine wpS1 10 hG10 ?_; intro hG11; clear hG10
        refine wpS3 11 (.bool false) hG11 ?_; intro hG12; clear hG11
        refine wpS1 12 hG12 ?_; intro hG13; clear hG12
        refine wpS2 13 hG13 ?_; intro hG14; clear hG13
        refine wpS1 14 hG14 ?_; intro hG15; clear hG14
        refine wpS1 15 hG15 ?_; intro hG16; clear hG15
        refine wpS1 16 hG16 ?_; intro hG17; clear hG16
        refine wpS2 17 hG17 ?_; intro hG18; clear hG17
        refine wpAnyG_ready (rs := [18]) (by kernel_rfl) (by simp) (AllG.cons rfl hG18 (fun K hK => ?_) AllG.nil)
        refine (if_pos (by rfl)).mpr ?_
        (go_simp; go_at_call 22; refine (KGx.out _ (Below.refl _ _).drew).mono ?_; rintro e w9 ⟨rfl, hb9⟩; have hb69 := hb68.trans (((Below.refl _ _).drew.trans hb9).mono z68); clear hb9)
        refine hK.out _ _ (Or.inl rfl) (fun hG19 => wpN ?_); clear hK hG18
        refine wpS3 19 (.bool true) hG19 ?_; intro hG20; clear hG19
        refine wpS1 20 hG20 ?_; intro hG21; clear hG20
        refine wpS1 21 hG21 ?_; intro hG22; clear hG21
        refine wpS1 22 hG22 ?_; intro hG23; clear hG22
        refine wpS1 23 hG23 ?_; intro hG24; clear hG23
        refine wpAnyG_done (by kernel_rfl) ?_ _; clear hG24
        go_wp2
        go_roundw
        case rel => exact ⟨q + 1, by omega, by omega, by go_num, hb69⟩
        case measure => simp [intOf]; omega
    · have hq3 : ¬ (q : Int) ≤ 3 := by omega
      go_wp2
      go_ret
      exact ⟨rfl, hbw7⟩

end Go.Proofs.Ytaampjhdgeoicaa

/- The law SimplexBounds. -/
import Derived.Test.YtaomaopbdilmnaaSxO
import Derived.Test.YtaomaopbdilmnaaSxK
namespace Go.Proofs.Ytaomaopbdilmnaa
set_option linter.unusedSimpArgs false
set_option linter.unusedVariables false
open Go Go.RowKit
set_option linter.unusedVariables false

abbrev Ok37 (c : List (Int × Int)) (R : List (List (Int × Int))) (b : List (Int × Int)) : Prop := c.length ≤ 24 ∧ R.length ≤ 24 ∧ R.length = b.length ∧ (∀ i, i < R.length → (mr R i).length = c.length) ∧ prL c = true ∧ prL b = true ∧ (∀ i, i < R.length → prL (mr R i) = true) ∧ ∀ i, i < b.length → 0 ≤ fv b i
/-- A list of proper fractions that are not negative. -/
theorem sol_ok {x : List (Int × Int)} (h : solB x = true) : prL x = true ∧ ∀ j, j < x.length → 0 ≤ rl x j := by
  have h1 : ∀ j, j < x.length → nsB x j = false := anyB_false.1 (by unfold solB at h; simpa using h)
  have h2 : ∀ j, j < x.length → prB (fv x j) (fx x j) = true ∧ 0 ≤ fv x j := fun j hj => by
    have := h1 j hj
    unfold nsB at this
    simp only [Bool.or_eq_false_iff, Bool.not_eq_false', decide_eq_false_iff_not] at this
    exact ⟨this.1, by omega⟩
  refine ⟨prL_iff.2 fun j hj => (h2 j hj).1, fun j hj => ?_⟩
  have := (rl_num (h2 j hj).1).1
  exact Rat.num_nonneg.1 (by rw [this]; exact (h2 j hj).2)
theorem nums_len {l : List (Int × Int)} {N : Nat} (hp : prL l = true) (hl : l.length = N) : NumsOf l N (rl l) := by subst hl; exact nums_rl hp
theorem fe_pf {c : List (Int × Int)} {R : List (List (Int × Int))} {b x : List (Int × Int)} (hz : Ok37 c R b) (hx : x.length = c.length) (hf : feB R b x = true) : prL x = true ∧ PF c.length R.length (fr37 R) (rl b) (rl x) := by
  unfold feB at hf
  simp only [Bool.and_eq_true, decide_eq_true_eq, Bool.not_eq_true'] at hf
  obtain ⟨hl, hs, hn⟩ := hf
  obtain ⟨hp, h0⟩ := sol_ok hs
  refine ⟨hp, fun j hj => h0 j (by omega), fun i hi => ?_⟩
  have h1 := anyB_false.1 hn i hi
  unfold feN at h1
  simp only [Bool.or_eq_false_iff, Bool.not_eq_false', decide_eq_false_iff_not, Decidable.not_not] at h1
  obtain ⟨_, h2, hpb, h3⟩ := h1
  have hpi := hz.2.2.2.2.2.2.1 i hi
  have hli := hz.2.2.2.1 i hi
  rcases dot_rat (nums_len hpi hli) (nums_len hp hx) (fun j hj => rl_rep (prL_iff.1 hpi j (by omega))) (fun j hj => rl_rep (prL_iff.1 hp j (by omega))) with h | ⟨h, hr⟩
  · rw [h] at h2; exact absurd h2 (by decide)
  · rw [h] at h3
    obtain ⟨e1, e2⟩ := rl_num hpb
    rw [← e1, ← e2, cmp_rat hr (rl_rep hpb)] at h3
    show (sg c.length fun j => rl (mr R i) j * rl x j) ≤ rl b i
    split at h3
    · grind
    · split at h3
      · exact absurd (show (0 : Int) < 1 by decide) h3
      · grind
theorem du_df {c : List (Int × Int)} {R : List (List (Int × Int))} {b y : List (Int × Int)} (hz : Ok37 c R b) (hf : duB c R y = true) : y.length = R.length ∧ prL y = true ∧ DF c.length R.length (fr37 R) (rl c) (rl y) := by
  unfold duB at hf
  simp only [Bool.and_eq_true, decide_eq_true_eq, Bool.not_eq_true'] at hf
  obtain ⟨hl, hs, _, hn⟩ := hf
  obtain ⟨hp, h0⟩ := sol_ok hs
  refine ⟨hl.symm, hp, fun i hi => h0 i (by omega), fun j hj => ?_⟩
  have h1 := anyB_false.1 hn j hj
  unfold duN at h1
  simp only [Bool.or_eq_false_iff, Bool.not_eq_false', decide_eq_false_iff_not, Decidable.not_not] at h1
  obtain ⟨h2, hpb, h3⟩ := h1
  have hpi := fun i hi => prL_iff.1 (hz.2.2.2.2.2.2.1 i hi) j (by rw [hz.2.2.2.1 i hi]; exact hj)
  have hN : NumsOf (cln R j R.length) R.length (fun i => fr37 R i j) := ⟨cln_len _ _ _, fun i hi => by
    have e1 : fv (cln R j R.length) i = fv (mr R i) j := by unfold cln; simp [fv, List.getD, hi]
    have e2 : fx (cln R j R.length) i = fx (mr R i) j := by unfold cln; simp [fx, List.getD, hi]
    rw [e1, e2]
    exact rl_num (hpi i hi)⟩
  rcases dot_rat hN (nums_len hp hl.symm) (fun i hi => rl_rep (hpi i hi)) (fun i hi => rl_rep (prL_iff.1 hp i (by omega))) with h | ⟨h, hr⟩
  · rw [h] at h2; exact absurd h2 (by decide)
  · rw [h] at h3
    obtain ⟨e1, e2⟩ := rl_num hpb
    rw [← e1, ← e2, cmp_rat hr (rl_rep hpb)] at h3
    show rl c j ≤ sg R.length fun i => fr37 R i j * rl y i
    split at h3
    · exact absurd (show (-1 : Int) < 0 by decide) h3
    · grind
theorem bnd_x {c : List (Int × Int)} {R : List (List (Int × Int))} {b x : List (Int × Int)} {T : TB} (hs : SolIs c.length R.length (fr37 R) (rl b) (rl c) T) (hz : Ok37 c R b) (hx : x.length = c.length) (hf : feB R b x = true) :
    dotF c x = (0, 0, 5) ∨ ∃ z : Rat, (cmpF z.num z.den T.z.num T.z.den ≤ 0) ∧ dotF c x = (z.num, (z.den : Int), 0) := by
  obtain ⟨hp, hpf⟩ := fe_pf hz hx hf
  have hpc := hz.2.2.2.2.1
  rcases dot_rat (nums_rl hpc) (nums_len hp hx) (fun j hj => rl_rep (prL_iff.1 hpc j hj)) (fun j hj => rl_rep (prL_iff.1 hp j (by omega))) with h | ⟨h, hr⟩
  · exact .inl h
  · refine .inr ⟨_, ?_, h⟩
    have hw := weak hpf hs.df
    rw [hs.by'] at hw
    have hle : (sg c.length fun j => rl c j * rl x j) ≤ T.z := hw
    rw [cmp_rat hr hs.sml.z]
    split
    · decide
    · split
      · rename_i h3 h4; grind
      · decide
theorem bnd_y {c : List (Int × Int)} {R : List (List (Int × Int))} {b y : List (Int × Int)} {T : TB} (hs : SolIs c.length R.length (fr37 R) (rl b) (rl c) T) (hz : Ok37 c R b) (hf : duB c R y = true) :
    dotF b y = (0, 0, 5) ∨ ∃ z : Rat, (0 ≤ cmpF z.num z.den T.z.num T.z.den) ∧ dotF b y = (z.num, (z.den : Int), 0) := by
  obtain ⟨hy, hp, hdf⟩ := du_df hz hf
  have hpb := hz.2.2.2.2.2.1
  rcases dot_rat (nums_len hpb hz.2.2.1.symm) (nums_len hp hy) (fun j hj => rl_rep (prL_iff.1 hpb j (by have := hz.2.2.1; omega))) (fun j hj => rl_rep (prL_iff.1 hp j (by omega))) with h | ⟨h, hr⟩
  · exact .inl h
  · refine .inr ⟨_, ?_, h⟩
    have hw := weak hs.pf hdf
    rw [hs.cx] at hw
    have hle : T.z ≤ (sg R.length fun j => rl b j * rl y j) := hw
    rw [cmp_rat hr hs.sml.z]
    split
    · rename_i h3; grind
    · split <;> decide

set_option maxRecDepth 100000 in
set_option maxHeartbeats 8000000 in
theorem simplexBounds_any (c : List (Int × Int)) (R : List (List (Int × Int))) (b : List (Int × Int)) (Ac AR Ab : Option Addr) (cc cR cb : Nat) (x y : List (Int × Int)) (Ax Ay : Option Addr) (cx cy : Nat) (w : World) (hc : FactsAt w w.heap.size Ac c) (hR : MxAt w AR R) (hb : FactsAt w w.heap.size Ab b) (hx : FactsAt w w.heap.size Ax x) (hy : FactsAt w w.heap.size Ay y) :
    Calls Try.prog 8 #[.agg #[.slice Ac c.length cc, .slice AR R.length cR, .slice Ab b.length cb], .slice Ax x.length cx, .slice Ay y.length cy] w fun e w' => e = .returned (.bool true) ∧ Below w.heap.size w w' := by
  have KA := Lib.hid awake37_any
  have KL := Lib.hid (fun wx (h : Below w.heap.size w wx) => large_any c R b Ac AR Ab cc cR cb wx (factsAt_up hc h) (hR.up h) (factsAt_up hb h))
  have KS := Lib.hid (fun wx (h : Below w.heap.size w wx) => solve_any c R b Ac AR Ab cc cR cb wx (factsAt_up hc h) (hR.up h) (factsAt_up hb h))
  have KF := Lib.hid (fun wx (h : Below w.heap.size w wx) => feasible_any R b x AR Ab Ax cR cb cx wx (hR.up h) (factsAt_up hb h) (factsAt_up hx h))
  have KU := Lib.hid (fun wx (h : Below w.heap.size w wx) (hm : R.length ≤ 1000) => dual_any c R y Ac AR Ay cc cR cy wx (factsAt_up hc h) (hR.up h) (factsAt_up hy h) hm)
  have KX := Lib.hid (fun wx (h : Below w.heap.size w wx) => dot_any c x Ac Ax cc cx wx (factsAt_up hc h) (factsAt_up hx h))
  have KY := Lib.hid (fun wx (h : Below w.heap.size w wx) => dot_any b y Ab Ay cb cy wx (factsAt_up hb h) (factsAt_up hy h))
  have lc := hc.len
  have lR := hR.1
  have lb := hb.len
  have lx := hx.len
  have ly := hy.len
  clear hc hR hb hx hy
  go_enter Try.func8, Try.ntmps8
  go_wp2_with fail
  refine (KA.out _).mono ?_
  rintro e w3 ⟨rfl, hb3⟩
  have hP3 := (PrgAt.new w (.slice Ac c.length cc) (.slice AR R.length cR) (.slice Ab b.length cb) 25).up hb3
  have B3 : Below w.heap.size w w3 := ((Below.refl _ _).alloc (Nat.le_refl _) _).trans (hb3.mono (by simp))
  have z3 := B3.size
  obtain ⟨P, hPP⟩ : ∃ P, P = w.heap.size := ⟨_, rfl⟩
  rw [← hPP] at hP3
  have p0 := hP3.lt
  have p1 := hP3.c0
  have p2 := hP3.c1
  have p3 := hP3.c2
  clear hb3
  rw [← hPP]
  clear hPP
  go_wp2_with fail
  refine (KL.out w3 B3).mono ?_
  rintro e w4 ⟨⟨v, rfl, hv⟩, hb4⟩
  have hP4 := hP3.up hb4
  have B4 := B3.trans (hb4.mono z3)
  have z4 := B4.size
  clear p0 p1 p2 p3 hP3 hb4 B3 z3 hv
  have p0 := hP4.lt
  have p1 := hP4.c0
  have p2 := hP4.c1
  have p3 := hP4.c2
  cases v
  case true =>
    go_wp2_with fail
    refine (KA.out _).mono ?_
    rintro e w5 ⟨rfl, hb5⟩
    have B5 := B4.trans (hb5.mono z4)
    go_wp2
    go_ret
    exact ⟨rfl, B5⟩
  case false =>
    cases hx20 : decide ((20 : Int) < (x.length : Int))
    case true =>
      go_wp2_with fail
      refine (KA.out _).mono ?_
      rintro e w5 ⟨rfl, hb5⟩
      have B5 := B4.trans (hb5.mono z4)
      go_wp2
      go_ret
      exact ⟨rfl, B5⟩
    cases hy20 : decide ((20 : Int) < (y.length : Int))
    case true =>
      go_wp2_with fail
      refine (KA.out _).mono ?_
      rintro e w5 ⟨rfl, hb5⟩
      have B5 := B4.trans (hb5.mono z4)
      go_wp2
      go_ret
      exact ⟨rfl, B5⟩
    go_wp2_with fail
    clear hx20 hy20
    refine (KS.out w4 B4).mono ?_
    rintro e w5 ⟨hs, hb5⟩
    have hP5 := hP4.up hb5
    have B5 := B4.trans (hb5.mono z4)
    have z5 := B5.size
    clear p0 p1 p2 p3 hP4 hb5 B4 z4
    have p0 := hP5.lt
    have p1 := hP5.c0
    have p2 := hP5.c1
    have p3 := hP5.c2
    rcases hs with ⟨hne, he⟩ | ⟨h0, ⟨cd, hf, he⟩ | ⟨T, hf, bx, bY, he, _, _⟩⟩
    · obtain rfl := he
      clear hne
      go_wp2
      go_ret
      exact ⟨rfl, by repeat (first | exact Below.refl _ _ | refine below_dN ?_ _ | refine Below.drew ?_ | refine Below.alloc ?_ (by first | omega | (simp; done) | (simp; omega)) _ | refine Below.setCell ?_ (by first | omega | (simp; done) | (simp; omega)) _ | refine below_step (by assumption) (by first | omega | (simp; done) | (simp; omega)) ?_)⟩
    · obtain rfl := he
      clear hf h0
      go_wp2
      go_ret
      exact ⟨rfl, by repeat (first | exact Below.refl _ _ | refine below_dN ?_ _ | refine Below.drew ?_ | refine Below.alloc ?_ (by first | omega | (simp; done) | (simp; omega)) _ | refine Below.setCell ?_ (by first | omega | (simp; done) | (simp; omega)) _ | refine below_step (by assumption) (by first | omega | (simp; done) | (simp; omega)) ?_)⟩
    · subst he
      have HBX := Lib.hid (fun h1 h2 => bnd_x (x := x) (fin_sol h0 hf) (chk_zero h0) h1 h2)
      have HBY := Lib.hid (fun h2 => bnd_y (y := y) (fin_sol h0 hf) (chk_zero h0) h2)
      have HM := Lib.hid (show R.length ≤ 1000 by have := (chk_zero h0).2.1; omega)
      clear h0 hf
      obtain ⟨tn, htn⟩ : ∃ tn, tn = T.z.num := ⟨_, rfl⟩
      obtain ⟨td, htd⟩ : ∃ td, td = (T.z.den : Int) := ⟨_, rfl⟩
      have HTN := Lib.hid htn
      have HTD := Lib.hid htd
      rw [← htn, ← htd]
      clear htn htd
      go_upto_region 6 with fail
      have hV6 : Own2 (w5.alloc (.cells #[.int .i64 tn, .int .i64 td] 29)) w5.heap.size tn td := Own2.new
      have B6 : Below w.heap.size w (w5.alloc (.cells #[.int .i64 tn, .int .i64 td] 29)) := B5.alloc z5 _
      have hP6 := hP5.up ((Below.refl w5.heap.size w5).alloc (Nat.le_refl _) (.cells #[.int .i64 tn, .int .i64 td] 29))
      obtain ⟨w6, hw6⟩ : ∃ w6, w6 = w5.alloc (.cells #[.int .i64 tn, .int .i64 td] 29) := ⟨_, rfl⟩
      obtain ⟨VB, hVB⟩ : ∃ VB, VB = w5.heap.size := ⟨_, rfl⟩
      rw [← hw6, ← hVB] at hV6 ⊢
      rw [← hw6] at B6 hP6
      clear hw6 hVB p0 p1 p2 p3 hP5 B5 z5
      have z6 := B6.size
      have HX1 := Lib.hid (fun wx (h : Below w6.heap.size w6 wx) => KF.out wx (B6.trans (h.mono z6)))
      have HX2 := Lib.hid (fun wx (h : Below w6.heap.size w6 wx) => KX.out wx (B6.trans (h.mono z6)))
      have HY1 := Lib.hid (fun wx (h : Below w6.heap.size w6 wx) => KU.out wx (B6.trans (h.mono z6)) HM.out)
      have HY2 := Lib.hid (fun wx (h : Below w6.heap.size w6 wx) => KY.out wx (B6.trans (h.mono z6)))
      have p0 := hP6.lt
      have p1 := hP6.c0
      have p2 := hP6.c1
      have p3 := hP6.c2
      go_cut [59] (fun v wx => v = .bool (decide (x.length = c.length) && feB R b x) ∧ Below w6.heap.size w6 wx)
      case first =>
        by_cases hxl : x.length = c.length
        · have e1 : ((x.length : Int) == (c.length : Int)) = true := by simp; omega
          have Hxl := Lib.hid hxl
          clear hxl
          go_wp2_with fail
          refine (HX1.out _ (Below.refl _ _)).mono ?_
          rintro e w7 ⟨rfl, hb7⟩
          go_wp2
          go_meet
          case rel => exact ⟨by rw [decide_eq_true Hxl.out]; rfl, hb7⟩
        · have e1 : ((x.length : Int) == (c.length : Int)) = false := by simp; omega
          have Hxl := Lib.hid hxl
          clear hxl
          go_wp2
          go_meet
          case rel => exact ⟨by rw [decide_eq_false Hxl.out]; rfl, Below.refl _ _⟩
      case rest =>
        obtain ⟨rfl, hbc⟩ := hcut
        clear p0 p1 p2 p3
        obtain ⟨beta, hbeta⟩ : ∃ beta, beta = (decide (x.length = c.length) && feB R b x) := ⟨_, rfl⟩
        rw [← hbeta]
        have Hbeta := Lib.hid hbeta
        clear hbeta
        have hPc := hP6.up hbc
        have p0 := hPc.lt
        have p1 := hPc.c0
        have p2 := hPc.c1
        have p3 := hPc.c2
        go_upto_if 59 with fail
        go_cut [] (fun wx => Below w6.heap.size w6 wx)
        case first =>
         cases beta
         case false =>
          go_wp2
          go_meet
          case rel => exact hbc
         case true =>
          have hD := HBX.out (by have := Hbeta.out; simp at this; exact this.1) (by have := Hbeta.out; simp at this; exact this.2)
          have K3 := HX2.out wc hbc
          rcases hD with h | ⟨z, hz, h⟩
          · rw [h] at K3
            unfold RetFE at K3
            simp only [errV_5] at K3
            have K3' := Lib.hid K3
            clear K3 h
            go_wp2_with fail
            refine K3'.out.mono ?_
            rintro e w8 ⟨rfl, hb8⟩
            have hb18 := hbc.trans (hb8.mono hbc.size)
            have z18 := hb18.size
            clear hb8
            go_wp2
            go_meet
            case rel => exact hb18.alloc z18 _
          · obtain ⟨zn, hzn⟩ : ∃ zn, zn = z.num := ⟨_, rfl⟩
            obtain ⟨zd, hzd⟩ : ∃ zd, zd = (z.den : Int) := ⟨_, rfl⟩
            rw [← HTN.out, ← HTD.out] at hz
            rw [← hzn, ← hzd] at h hz
            obtain ⟨cv, hcv⟩ : ∃ cv, cv = cmpF zn zd tn td := ⟨_, rfl⟩
            have KC := Lib.hid (fun wx => (by have := cmp_any zn zd tn td wx; rw [← hcv] at this; exact this : Calls Try.prog 18 #[.agg #[.int .i64 zn, .int .i64 zd], .agg #[.int .i64 tn, .int .i64 td]] wx fun e w' => e = .returned (.int .i64 cv) ∧ Below wx.heap.size wx w'))
            rw [← hcv] at hz
            have e1 : decide (0 < cv) = false := decide_eq_false (by omega)
            rw [h] at K3
            unfold RetFE at K3
            simp only [errV_0] at K3
            have K3' := Lib.hid K3
            clear K3 h hzn hzd hcv hz
            go_wp2_with fail
            refine K3'.out.mono ?_
            rintro e w8 ⟨rfl, hb8⟩
            have hb18 := hbc.trans (hb8.mono hbc.size)
            have z18 := hb18.size
            have hV8 := hV6.up hb18
            obtain ⟨y0, y1, y2, y3, y4⟩ := id hV8
            clear hb8 p0 p1 p2 p3
            go_wp2_with fail
            refine (KC.out _).mono ?_
            rintro e w9 ⟨rfl, hb9⟩
            have hb19 := hb18.trans (((Below.refl _ _).alloc (Nat.le_refl _) _).trans (hb9.mono (by simp)) |>.mono z18)
            clear hb9
            go_wp2
            go_meet
            case rel => exact hb19
        case rest =>
          clear p0 p1 p2 p3 hPc hbc Hbeta
          have hbc := hcut
          clear hcut
          have hPc := hP6.up hbc
          have p0 := hPc.lt
          have p1 := hPc.c0
          have p2 := hPc.c1
          have p3 := hPc.c2
          have hD0 := HBY.out
          cases e5 : duB c R y
          · have K5 := Lib.hid (e5 ▸ HY1.out wc hbc)
            clear hD0 e5
            go_wp2_with fail
            refine K5.out.mono ?_
            rintro e w7 ⟨rfl, hb7'⟩
            have hb7 := hbc.trans (hb7'.mono hbc.size)
            go_wp2
            go_ret
            exact ⟨rfl, B6.trans (hb7.mono z6)⟩
          have K5 := Lib.hid (e5 ▸ HY1.out wc hbc)
          have hD := hD0 e5
          clear hD0 e5
          have HD := Lib.hid hD
          clear hD
          go_wp2_with fail
          refine K5.out.mono ?_
          rintro e w7 ⟨rfl, hb7'⟩
          have hb7 := hbc.trans (hb7'.mono hbc.size)
          have hP7 := hP6.up hb7
          clear p0 p1 p2 p3 hb7'
          have p0 := hP7.lt
          have p1 := hP7.c0
          have p2 := hP7.c1
          have p3 := hP7.c2
          have hD := HD.out
          have K3 := HY2.out w7 hb7
          rcases hD with h | ⟨z, hz, h⟩
          · rw [h] at K3
            unfold RetFE at K3
            simp only [errV_5] at K3
            have K3' := Lib.hid K3
            clear K3 h
            go_wp2_with fail
            refine K3'.out.mono ?_
            rintro e w8 ⟨rfl, hb8⟩
            have hb18 := hb7.trans (hb8.mono hb7.size)
            have z18 := hb18.size
            clear hb8
            go_wp2
            go_ret
            exact ⟨rfl, B6.trans ((hb18.alloc z18 _).mono z6)⟩
          · obtain ⟨zn, hzn⟩ : ∃ zn, zn = z.num := ⟨_, rfl⟩
            obtain ⟨zd, hzd⟩ : ∃ zd, zd = (z.den : Int) := ⟨_, rfl⟩
            rw [← HTN.out, ← HTD.out] at hz
            rw [← hzn, ← hzd] at h hz
            obtain ⟨cv, hcv⟩ : ∃ cv, cv = cmpF zn zd tn td := ⟨_, rfl⟩
            have KC := Lib.hid (fun wx => (by have := cmp_any zn zd tn td wx; rw [← hcv] at this; exact this : Calls Try.prog 18 #[.agg #[.int .i64 zn, .int .i64 zd], .agg #[.int .i64 tn, .int .i64 td]] wx fun e w' => e = .returned (.int .i64 cv) ∧ Below wx.heap.size wx w'))
            rw [← hcv] at hz
            have e1 : decide (cv < 0) = false := decide_eq_false (by omega)
            rw [h] at K3
            unfold RetFE at K3
            simp only [errV_0] at K3
            have K3' := Lib.hid K3
            clear K3 h hzn hzd hcv hz
            go_wp2_with fail
            refine K3'.out.mono ?_
            rintro e w8 ⟨rfl, hb8⟩
            have hb18 := hb7.trans (hb8.mono hb7.size)
            have z18 := hb18.size
            have hV8 := hV6.up hb18
            obtain ⟨y0, y1, y2, y3, y4⟩ := id hV8
            clear hb8 p0 p1 p2 p3
            go_wp2_with fail
            refine (KC.out _).mono ?_
            rintro e w9 ⟨rfl, hb9⟩
            have hb19 := hb18.trans (((Below.refl _ _).alloc (Nat.le_refl _) _).trans (hb9.mono (by simp)) |>.mono z18)
            clear hb9
            go_wp2
            go_ret
            exact ⟨rfl, B6.trans (hb19.mono z6)⟩

end Go.Proofs.Ytaomaopbdilmnaa

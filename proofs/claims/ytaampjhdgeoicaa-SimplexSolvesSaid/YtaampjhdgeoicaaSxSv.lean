/- The law SimplexSolves. -/
import Derived.Test.YtaampjhdgeoicaaRfI
import Derived.Test.YtaampjhdgeoicaaSxX
import Derived.Test.YtaampjhdgeoicaaSxK
namespace Go.Proofs.Ytaampjhdgeoicaa
set_option linter.unusedSimpArgs false
set_option linter.unusedVariables false
open Go Go.RowKit
set_option linter.unusedVariables false

/-- A value, two lists and an error that were answered. -/
def GotS (n d : Int) (lx ly : List (Int × Int)) (ev : Value) (e : Ending) (w' : World) : Prop := ∃ A1 c1 A2 c2, e = .returned (.tuple #[.agg #[.int .i64 n, .int .i64 d], .slice A1 lx.length c1, .slice A2 ly.length c2, ev]) ∧ FactsAt w' w'.heap.size A1 lx ∧ FactsAt w' w'.heap.size A2 ly
theorem facts_nil (w : World) : FactsAt w w.heap.size none [] := ⟨by simp, fun h => absurd h (by simp)⟩
theorem fin_err_ne {m N : Nat} {T0 : TB} {cd : Int} (h : Fin m N T0 (.err cd)) : cd ≠ 0 := by
  obtain ⟨q, T, _, hl⟩ := h
  cases hl <;> decide
/-- What the program answers, the reference answers too. -/
theorem sol_got {c : List (Int × Int)} {R : List (List (Int × Int))} {b : List (Int × Int)} {e : Ending} {w' : World} (h : SolRet c R b e w') : ∃ n d lx ly code, GotS n d lx ly (errV code) e w' ∧ ∀ e2 w2, RSolRet c R b e2 w2 → GotS n d lx ly (.int .i64 code) e2 w2 := by
  rcases h with ⟨h0, rfl⟩ | ⟨h0, ⟨cd, hf, rfl⟩ | ⟨T, hf, bx, bY, rfl, hx, hy⟩⟩
  · refine ⟨0, 0, [], [], chk37 c R b, ⟨none, 0, none, 0, by rw [errV_ne h0]; rfl, facts_nil _, facts_nil _⟩, fun e2 w2 h2 => ?_⟩
    rcases h2 with ⟨_, rfl⟩ | ⟨h3, _⟩
    · exact ⟨none, 0, none, 0, rfl, facts_nil _, facts_nil _⟩
    · exact absurd h3 h0
  · refine ⟨0, 0, [], [], cd, ⟨none, 0, none, 0, by rw [errV_ne (fin_err_ne hf)]; rfl, facts_nil _, facts_nil _⟩, fun e2 w2 h2 => ?_⟩
    rcases h2 with ⟨h3, _⟩ | ⟨_, ⟨cd2, _, hf2, rfl⟩ | ⟨T, A1, c1, A2, c2, hf2, _⟩⟩
    · exact absurd h0 h3
    · have e := fin_uni (t37_tab h0) hf hf2
      injection e with e
      subst e
      exact ⟨none, 0, none, 0, rfl, facts_nil _, facts_nil _⟩
    · have e := fin_uni (t37_tab h0) hf hf2
      cases e
  · obtain ⟨n24, m24, _⟩ := chk_zero h0
    refine ⟨T.z.num, T.z.den, frq (xB R.length T) c.length, frq (fun i => -T.c (c.length + i)) R.length, 0, ⟨some ⟨bx, 0, none⟩, c.length, some ⟨bY, 0, none⟩, R.length, by rw [frq_len, frq_len, errV_0], fr_facts hx (by omega), fr_facts hy (by omega)⟩, fun e2 w2 h2 => ?_⟩
    rcases h2 with ⟨h3, _⟩ | ⟨_, ⟨cd2, _, hf2, rfl⟩ | ⟨T', A1, c1, A2, c2, hf2, rfl, F1, F2⟩⟩
    · exact absurd h0 h3
    · have e := fin_uni (t37_tab h0) hf hf2
      cases e
    · have e := fin_uni (t37_tab h0) hf hf2
      injection e with e
      subst e
      exact ⟨A1, c1, A2, c2, by rw [frq_len, frq_len], F1, F2⟩

set_option maxRecDepth 100000 in
set_option maxHeartbeats 8000000 in
theorem simplexSolves_any (c : List (Int × Int)) (R : List (List (Int × Int))) (b : List (Int × Int)) (Ac AR Ab : Option Addr) (cc cR cb : Nat) (w : World) (hc : FactsAt w w.heap.size Ac c) (hR : MxAt w AR R) (hb : FactsAt w w.heap.size Ab b) (zc : Ac = none → cc = 0) (zR : AR = none → cR = 0) (zb : Ab = none → cb = 0) :
    Calls Try.prog 3 #[.agg #[.slice Ac c.length cc, .slice AR R.length cR, .slice Ab b.length cb]] w fun e w' => e = .returned (.bool true) ∧ Below w.heap.size w w' := by
  have KA := Lib.hid awake37_any
  have KL := Lib.hid (fun wx (h : Below w.heap.size w wx) => large_any c R b Ac AR Ab cc cR cb wx (factsAt_up hc h) (hR.up h) (factsAt_up hb h))
  have KS := Lib.hid (fun wx (h : Below w.heap.size w wx) => ((solve_any c R b Ac AR Ab cc cR cb wx (factsAt_up hc h) (hR.up h) (factsAt_up hb h)).mono (fun e w' ⟨hs, hb⟩ => ⟨sol_got hs, hb⟩) : Calls Try.prog 8 #[.slice Ac c.length cc, .slice AR R.length cR, .slice Ab b.length cb] wx fun e w' => (∃ n d lx ly code, GotS n d lx ly (errV code) e w' ∧ ∀ e2 w2, RSolRet c R b e2 w2 → GotS n d lx ly (.int .i64 code) e2 w2) ∧ Below wx.heap.size wx w'))
  have KR := Lib.hid (fun wx (h : Below w.heap.size w wx) => rsolve_any c R b Ac AR Ab cc cR cb wx (factsAt_up hc h) (hR.up h) (factsAt_up hb h) zc zR zb)
  clear hc hR hb zc zR zb
  go_enter Try.func3, Try.ntmps3
  go_wp2_with fail
  refine (KA.out _).mono ?_
  rintro e w3 ⟨rfl, hb3⟩
  have hP3 := (PrgAt.new w (.slice Ac c.length cc) (.slice AR R.length cR) (.slice Ab b.length cb) 25).up hb3
  have B3 : Below w.heap.size w w3 := ((Below.refl _ _).alloc (Nat.le_refl _) _).trans (hb3.mono (by simp))
  have z3 := B3.size
  obtain ⟨P, hPP⟩ : ∃ P, P = w.heap.size := ⟨_, rfl⟩
  rw [← hPP] at hP3
  have p0 := hP3.lt
  have p1 := hP3.c0
  have p2 := hP3.c1
  have p3 := hP3.c2
  clear hb3
  rw [← hPP]
  clear hPP
  go_wp2_with fail
  refine (KL.out w3 B3).mono ?_
  rintro e w4 ⟨⟨v, rfl, hv⟩, hb4⟩
  have hP4 := hP3.up hb4
  have B4 := B3.trans (hb4.mono z3)
  have z4 := B4.size
  clear p0 p1 p2 p3 hP3 hb4 B3 z3
  have p0 := hP4.lt
  have p1 := hP4.c0
  have p2 := hP4.c1
  have p3 := hP4.c2
  cases v
  case true =>
    clear hv
    go_wp2_with fail
    refine (KA.out _).mono ?_
    rintro e w5 ⟨rfl, hb5⟩
    have B5 := B4.trans (hb5.mono z4)
    go_wp2
    go_ret
    exact ⟨rfl, B5⟩
  case false =>
    clear hv
    go_wp2_with fail
    refine (KS.out w4 B4).mono ?_
    rintro e w5 ⟨⟨n, d, lx, ly, code, ⟨A1, c1, A2, c2, rfl, F1, F2⟩, hr⟩, hb5⟩
    have HR := Lib.hid hr
    obtain ⟨ev, hev⟩ : ∃ ev, ev = errV code := ⟨_, rfl⟩
    have KN := Lib.hid (fun wx => (by have := num_any code wx; rw [← hev] at this; exact this : Calls Try.prog 11 #[ev] wx fun e w' => e = .returned (.int .i64 code) ∧ wx = w'))
    rw [← hev]
    have hP5 := hP4.up hb5
    have B5 := B4.trans (hb5.mono z4)
    have z5 := B5.size
    clear p0 p1 p2 p3 hP4 hb5 B4 z4 hr hev
    have B6 := B5.alloc z5 (.cells #[.int .i64 n, .int .i64 d] 29)
    have hal := (Below.refl w5.heap.size w5).alloc (Nat.le_refl _) (.cells #[.int .i64 n, .int .i64 d] 29)
    have hP55 := hP5.up hal
    have hV := Own2.new (w := w5) (T := 29) (n := n) (d := d)
    have G1 := Lib.hid (factsAt_up F1 hal)
    have G2 := Lib.hid (factsAt_up F2 hal)
    go_upto_region 4 with fail
    obtain ⟨w6, hw6⟩ : ∃ w6, w6 = w5.alloc (.cells #[.int .i64 n, .int .i64 d] 29) := ⟨_, rfl⟩
    obtain ⟨V, hVV⟩ : ∃ V, V = w5.heap.size := ⟨_, rfl⟩
    rw [← hw6] at B6 hP55 hV G1 G2 ⊢
    rw [← hVV] at hV ⊢
    have z6 := B6.size
    have p0 := hP55.lt
    have p1 := hP55.c0
    have p2 := hP55.c1
    have p3 := hP55.c2
    clear hal hw6 hVV F1 F2 B5 z5 hP5
    go_wp2_with fail
    refine (KR.out _ B6).mono ?_
    rintro e w7 ⟨hr7, hb7⟩
    obtain ⟨A3, c3, A4, c4, rfl, F3, F4⟩ := HR.out _ _ hr7
    have B7 := B6.trans (hb7.mono z6)
    have z7 := B7.size
    have hV7 := hV.up hb7
    have hal := (Below.refl w7.heap.size w7).alloc (Nat.le_refl _) (.cells #[.int .i64 n, .int .i64 d] 29)
    have B8 := B7.trans (hal.mono z7)
    have hV8 := hV7.up hal
    have hU := Own2.new (w := w7) (T := 29) (n := n) (d := d)
    have H1 := Lib.hid (factsAt_up (factsAt_up G1.out hb7) hal)
    have H2 := Lib.hid (factsAt_up (factsAt_up G2.out hb7) hal)
    have H3 := Lib.hid (factsAt_up F3 hal)
    have H4 := Lib.hid (factsAt_up F4 hal)
    clear hr7
    go_upto_region 5 with fail
    obtain ⟨w8, hw8⟩ : ∃ w8, w8 = w7.alloc (.cells #[.int .i64 n, .int .i64 d] 29) := ⟨_, rfl⟩
    obtain ⟨U, hUU⟩ : ∃ U, U = w7.heap.size := ⟨_, rfl⟩
    rw [← hw8] at B8 hV8 hU H1 H2 H3 H4 ⊢
    rw [← hUU] at hU ⊢
    have z8 := B8.size
    have KE1 := Lib.hid (by have := same_any lx lx A1 A3 c1 c3 w8 H1.out H3.out; rw [smB_self] at this; exact this : Calls Try.prog 10 #[.slice A1 lx.length c1, .slice A3 lx.length c3] w8 fun e w' => e = .returned (.bool true) ∧ Below w8.heap.size w8 w')
    have KE2 := Lib.hid (fun wx (h : Below w8.heap.size w8 wx) => (by have := same_any ly ly A2 A4 c2 c4 wx (factsAt_up H2.out h) (factsAt_up H4.out h); rw [smB_self] at this; exact this : Calls Try.prog 10 #[.slice A2 ly.length c2, .slice A4 ly.length c4] wx fun e w' => e = .returned (.bool true) ∧ Below wx.heap.size wx w'))
    obtain ⟨t0, t1, t2, _, _⟩ := id hV8
    obtain ⟨y0, y1, y2, _, _⟩ := id hU
    clear hal hw8 hUU F3 F4 B7 z7 hV7 hb7 hV8 hU p0 p1 p2 p3 hP55 hV
    go_wp2_with fail
    refine KE1.out.mono ?_
    rintro e w9 ⟨rfl, hb9⟩
    clear t0 t1 t2 y0 y1 y2
    go_wp2_with fail
    refine (KE2.out _ hb9).mono ?_
    rintro e wa ⟨rfl, hba⟩
    have hb8a := hb9.trans (hba.mono hb9.size)
    go_wp2_with fail
    refine (KN.out _).mono ?_
    rintro e _ ⟨rfl, rfl⟩
    have Ba := B8.trans (hb8a.mono z8)
    go_wp2
    go_ret
    exact ⟨rfl, Ba⟩

end Go.Proofs.Ytaampjhdgeoicaa

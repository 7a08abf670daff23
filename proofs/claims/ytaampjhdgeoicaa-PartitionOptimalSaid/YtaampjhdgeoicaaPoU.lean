/- The law PartitionOptimal. -/
import Derived.Test.YtaampjhdgeoicaaPoT
import Derived.Test.YtaampjhdgeoicaaPartE
namespace Go.Proofs.Ytaampjhdgeoicaa
set_option linter.unusedSimpArgs false
set_option linter.unusedVariables false
open Go Go.RowKit
set_option linter.unusedVariables false

/-- A list and an error that were answered. -/
def GotP (lx : List (Int × Int)) (ev : Value) (e : Ending) (w' : World) : Prop := ∃ A c, e = .returned (.tuple #[.slice A lx.length c, ev]) ∧ FactsAt w' w'.heap.size A lx
theorem facts_nil' (w : World) : FactsAt w w.heap.size none [] := ⟨by simp, fun h => absurd h (by simp)⟩
theorem fin_err_ne' {m N : Nat} {T0 : TB} {cd : Int} (h : Fin m N T0 (.err cd)) : cd ≠ 0 := by
  obtain ⟨q, T, _, hl⟩ := h
  cases hl <;> decide
theorem opt_tab {costs : List Int} {l : List Cut} (h0 : chk38 costs l = 0) (hn : costs.length ≤ 24) : Tab (keptL costs l).length (l.length + (keptL costs l).length) (T37 (onL l.length) (opR l (keptL costs l)) (opB costs (keptL costs l))) := by
  have := t37_tab (opt_chk (good38 h0) hn)
  rw [onL_len, opR_len] at this
  exact this
/-- What the program's Optimal answers, the reference's does too. -/
theorem opt_got {costs : List Int} {l : List Cut} {e : Ending} {w' : World} (hn : costs.length ≤ 24) (h : PoRet costs l e w') : ∃ lx code, GotP lx (errV code) e w' ∧ ∀ e2 w2, RPoRet costs l e2 w2 → GotP lx (.int .i64 code) e2 w2 := by
  rcases h with ⟨h0, rfl⟩ | ⟨h0, ⟨cd, hf, rfl⟩ | ⟨T, bx, hf, rfl, hx⟩⟩
  · refine ⟨[], chk38 costs l, ⟨none, 0, rfl, facts_nil' _⟩, fun e2 w2 h2 => ?_⟩
    rcases h2 with ⟨_, rfl⟩ | ⟨h3, _⟩
    · exact ⟨none, 0, rfl, facts_nil' _⟩
    · exact absurd h3 h0
  · refine ⟨[], cd, ⟨none, 0, by rw [errV_ne (fin_err_ne' hf)]; rfl, facts_nil' _⟩, fun e2 w2 h2 => ?_⟩
    rcases h2 with ⟨h3, _⟩ | ⟨_, ⟨cd2, _, hf2, rfl⟩ | ⟨T, A1, c1, hf2, _⟩⟩
    · exact absurd h0 h3
    · have e := fin_uni (opt_tab h0 hn) hf hf2
      injection e with e
      subst e
      exact ⟨none, 0, rfl, facts_nil' _⟩
    · have e := fin_uni (opt_tab h0 hn) hf hf2
      cases e
  · have hm := (good38 h0).many
    refine ⟨frq (xB (keptL costs l).length T) l.length, 0, ⟨some ⟨bx, 0, none⟩, l.length, by rw [frq_len, errV_0], fr_facts hx (by omega)⟩, fun e2 w2 h2 => ?_⟩
    rcases h2 with ⟨h3, _⟩ | ⟨_, ⟨cd2, _, hf2, rfl⟩ | ⟨T', A1, c1, hf2, rfl, F1⟩⟩
    · exact absurd h0 h3
    · have e := fin_uni (opt_tab h0 hn) hf hf2
      cases e
    · have e := fin_uni (opt_tab h0 hn) hf hf2
      injection e with e
      subst e
      exact ⟨A1, c1, by rw [frq_len], F1⟩

set_option maxRecDepth 100000 in
set_option maxHeartbeats 8000000 in
theorem partitionOptimal_any (costs : List Int) (l : List Cut) (A1 A2 : Option Addr) (c1 c2 : Nat) (w : World) (h1 : IntsAt w w.heap.size A1 costs) (h2 : CutsAt w w.heap.size A2 l) :
    Calls Try.prog 4 #[.slice A1 costs.length c1, .slice A2 l.length c2] w fun e w' => e = .returned (.bool true) ∧ Below w.heap.size w w' := by
  have KA := Lib.hid awake38_any
  have KL := Lib.hid (fun wx (h : Below w.heap.size w wx) => large38_any costs l A1 A2 c1 c2 wx (h1.up h) (h2.up h))
  have KC := Lib.hid (fun wx (h : Below w.heap.size w wx) => rcheck38_any costs l A1 A2 c1 c2 wx (h1.up h) (h2.up h))
  have KO := Lib.hid (fun wx (h : Below w.heap.size w wx) (hn : costs.length ≤ 24) => ((optimal_any costs l A1 A2 c1 c2 wx (h1.up h) (h2.up h) hn).mono (fun e w' ⟨hs, hb⟩ => ⟨opt_got hn hs, hb⟩) : Calls Try.prog 15 #[.slice A1 costs.length c1, .slice A2 l.length c2] wx fun e w' => (∃ lx code, GotP lx (errV code) e w' ∧ ∀ e2 w2, RPoRet costs l e2 w2 → GotP lx (.int .i64 code) e2 w2) ∧ Below wx.heap.size wx w'))
  have KR := Lib.hid (fun wx (h : Below w.heap.size w wx) (hn : costs.length ≤ 24) => roptimal_any costs l A1 A2 c1 c2 wx (h1.up h) (h2.up h) hn)
  have l1 := h1.len
  have l2 := h2.len
  clear h1 h2
  go_enter Try.func4, Try.ntmps4
  go_wp2_with fail
  refine (KA.out _).mono ?_
  rintro e w3 ⟨rfl, hb3⟩
  have z3 := hb3.size
  go_wp2_with fail
  refine (KL.out _ hb3).mono ?_
  rintro e w4 ⟨⟨B, rfl, hB⟩, hb4⟩
  have B4 := hb3.trans (hb4.mono z3)
  have z4 := B4.size
  clear hb4 hb3 z3
  cases B
  case true =>
    clear hB
    go_wp2_with fail
    refine (KA.out _).mono ?_
    rintro e w5 ⟨rfl, hb5⟩
    have B5 := B4.trans (hb5.mono z4)
    go_wp2
    go_ret
    exact ⟨rfl, B5⟩
  case false =>
    have hn := (hB rfl).1
    have HN := Lib.hid (show costs.length ≤ 24 by omega)
    clear hB hn
    by_cases h8 : (8 : Int) < (l.length : Int)
    · by_cases h0 : chk38 costs l = 0
      · rw [h0] at KC
        go_wp2_with fail
        refine (KC.out _ B4).mono ?_
        rintro e w5 ⟨rfl, hb5⟩
        have B5 := B4.trans (hb5.mono z4)
        have z5 := B5.size
        go_wp2_with fail
        refine (KA.out _).mono ?_
        rintro e w6 ⟨rfl, hb6⟩
        have B6 := B5.trans (hb6.mono z5)
        go_wp2
        go_ret
        exact ⟨rfl, B6⟩
      · go_wp2_with fail
        refine (KC.out _ B4).mono ?_
        rintro e w5 ⟨rfl, hb5⟩
        have B5 := B4.trans (hb5.mono z4)
        have z5 := B5.size
        clear hb5
        go_wp2_with fail
        clear h0
        refine (KO.out _ B5 HN.out).mono ?_
        rintro e w6 ⟨⟨lx, code, ⟨A3, c3, rfl, F3⟩, hr⟩, hb6⟩
        have HR := Lib.hid hr
        obtain ⟨ev, hev⟩ : ∃ ev, ev = errV code := ⟨_, rfl⟩
        have KN := Lib.hid (fun wx => (by have := num_any code wx; rw [← hev] at this; exact this : Calls Try.prog 11 #[ev] wx fun e w' => e = .returned (.int .i64 code) ∧ wx = w'))
        rw [← hev]
        have B6 := B5.trans (hb6.mono z5)
        have z6 := B6.size
        clear hb6 hr hev
        go_wp2_with fail
        refine (KR.out _ B6 HN.out).mono ?_
        rintro e w7 ⟨hr7, hb7⟩
        obtain ⟨A5, c5, rfl, F5⟩ := HR.out _ _ hr7
        have B7 := B6.trans (hb7.mono z6)
        have z7 := B7.size
        have F7 := factsAt_up F3 hb7
        have KE := Lib.hid (by have := fsame_any lx lx A3 A5 c3 c5 w7 F7 F5; rw [decide_eq_true rfl] at this; exact this : Calls Try.prog 17 #[.slice A3 lx.length c3, .slice A5 lx.length c5] w7 fun e w' => e = .returned (.bool true) ∧ Below w7.heap.size w7 w')
        clear hb7 hr7 F3 F5 F7
        go_wp2_with fail
        refine KE.out.mono ?_
        rintro e w8 ⟨rfl, hb8⟩
        have B8 := B7.trans (hb8.mono z7)
        go_wp2_with fail
        refine (KN.out _).mono ?_
        rintro e _ ⟨rfl, rfl⟩
        go_wp2
        go_ret
        exact ⟨rfl, B8⟩
    · go_wp2_with fail
      refine (KO.out _ B4 HN.out).mono ?_
      rintro e w6 ⟨⟨lx, code, ⟨A3, c3, rfl, F3⟩, hr⟩, hb6⟩
      have HR := Lib.hid hr
      obtain ⟨ev, hev⟩ : ∃ ev, ev = errV code := ⟨_, rfl⟩
      have KN := Lib.hid (fun wx => (by have := num_any code wx; rw [← hev] at this; exact this : Calls Try.prog 11 #[ev] wx fun e w' => e = .returned (.int .i64 code) ∧ wx = w'))
      rw [← hev]
      have B6 := B4.trans (hb6.mono z4)
      have z6 := B6.size
      clear hb6 hr hev
      go_wp2_with fail
      refine (KR.out _ B6 HN.out).mono ?_
      rintro e w7 ⟨hr7, hb7⟩
      obtain ⟨A5, c5, rfl, F5⟩ := HR.out _ _ hr7
      have B7 := B6.trans (hb7.mono z6)
      have z7 := B7.size
      have F7 := factsAt_up F3 hb7
      have KE := Lib.hid (by have := fsame_any lx lx A3 A5 c3 c5 w7 F7 F5; rw [decide_eq_true rfl] at this; exact this : Calls Try.prog 17 #[.slice A3 lx.length c3, .slice A5 lx.length c5] w7 fun e w' => e = .returned (.bool true) ∧ Below w7.heap.size w7 w')
      clear hb7 hr7 F3 F5 F7
      go_wp2_with fail
      refine KE.out.mono ?_
      rintro e w8 ⟨rfl, hb8⟩
      have B8 := B7.trans (hb8.mono z7)
      go_wp2_with fail
      refine (KN.out _).mono ?_
      rintro e _ ⟨rfl, rfl⟩
      go_wp2
      go_ret
      exact ⟨rfl, B8⟩

end Go.Proofs.Ytaampjhdgeoicaa

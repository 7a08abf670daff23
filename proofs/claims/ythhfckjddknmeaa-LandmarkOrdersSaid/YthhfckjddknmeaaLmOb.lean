/- The law LandmarkOrders. -/
import Derived.Test.YthhfckjddknmeaaLmOa
import Derived.Test.YthhfckjddknmeaaLmBg
import Derived.Test.YthhfckjddknmeaaLmV
namespace Go.Proofs.Ythhfckjddknmeaa
set_option linter.unusedSimpArgs false
set_option linter.unusedVariables false
open Go Go.RowKit
set_option linter.unusedVariables false

theorem neqP2 (a b c d : Int) (w : World) : (binOp .neq 29 (.agg #[.int .i64 a, .int .i64 b, .int .i64 c, .int .i64 d]) (.agg #[.int .i64 a, .int .i64 b, .int .i64 c, .int .i64 d])).run Try.prog w = .ok (.bool false) w := by
  have u3 := Try.underlying28
  have a3 := Try.isAgg28
  have z3 := Try.sizeOf28
  rw [run_neq_struct, show (10000 : Nat) = 9999 + 1 from rfl, Op.equalIn]
  simp only [Sem.run_bind, run_underlying Try.underlying29, Result.andThen_ok]
  simp only [Std.Legacy.Range.forIn_eq_forIn_range', Std.Legacy.Range.size, Nat.sub_zero, Nat.add_sub_cancel, Nat.div_one, List.range'_succ, List.range'_zero, List.forIn_cons, List.forIn_nil]
  simp [go_sem]

set_option maxRecDepth 100000 in
set_option maxHeartbeats 8000000 in
theorem landmarkOrders_any (t : Tsk) (p : Lies) (s : List Int) (AS : Option Addr) (cs : Nat) (w : World) (ht : TaskAt w w.heap.size t p) (hs : IntsAt w w.heap.size AS s) :
    Calls Try.prog 4 #[TaskV t p, .slice AS s.length cs] w fun e w' => e = .returned (.bool true) ∧ Below w.heap.size w w' := by
  have k0 := fun w1 => awake36_any w1
  have k1 := fun w1 (hb : Below w.heap.size w w1) => small_any t p w1 (ht.up hb)
  have k2 := fun w1 h (hb : Below w.heap.size w w1) => new_any t p w1 (ht.up hb) h
  obtain ⟨av, ai, ag, ao, cv, ci, cg, co⟩ := p
  unfold TaskV at *
  dsimp only at *
  cases e1 : smB t
  · rw [e1] at k1
    clear k2
    go_enter Try.func4, Try.ntmps4
    go_wp2_with fail; refine (k0 _).mono ?_; rintro e w1 ⟨rfl, hb1⟩; obtain ⟨hc1, hf1, hz1, hlt1, hle1⟩ := cellsIf hb1 (by (try simp); exact rfl); (try have : w.heap.size < w1.heap.size := (by omega)); (try have : w.heap.size < w1.heap.size + 1 := (by omega)); (try have : w.heap.size < w1.heap.size + 1 + 1 := (by omega)); (try have : w.heap.size + 1 < w1.heap.size := (by omega)); (try have : w.heap.size + 1 < w1.heap.size + 1 := (by omega)); (try have : w.heap.size + 1 < w1.heap.size + 1 + 1 := (by omega)); (try have : w.heap.size + 1 + 1 < w1.heap.size := (by omega)); (try have : w.heap.size + 1 + 1 < w1.heap.size + 1 := (by omega)); (try have : w.heap.size + 1 + 1 < w1.heap.size + 1 + 1 := (by omega))
    go_wp2_with fail; refine (k1 _ (by repeat (first | exact Below.refl _ _ | refine below_dN ?_ _ | refine Below.drew ?_ | refine Below.alloc ?_ (by first | omega | (simp; done) | (simp; omega)) _ | refine Below.setCell ?_ (by first | omega | (simp; done) | (simp; omega)) _ | refine below_step (by assumption) (by first | omega | (simp; done) | (simp; omega)) ?_))).mono ?_; rintro e w2 ⟨rfl, hb2⟩; obtain ⟨hc2, hf2, hz2, hlt2, hle2⟩ := cellsIf hb2 (by (try simp); exact rfl); (try have : w.heap.size < w2.heap.size := (by omega)); (try have : w.heap.size < w2.heap.size + 1 := (by omega)); (try have : w.heap.size < w2.heap.size + 1 + 1 := (by omega)); (try have : w.heap.size + 1 < w2.heap.size := (by omega)); (try have : w.heap.size + 1 < w2.heap.size + 1 := (by omega)); (try have : w.heap.size + 1 < w2.heap.size + 1 + 1 := (by omega)); (try have : w.heap.size + 1 + 1 < w2.heap.size := (by omega)); (try have : w.heap.size + 1 + 1 < w2.heap.size + 1 := (by omega)); (try have : w.heap.size + 1 + 1 < w2.heap.size + 1 + 1 := (by omega)); (try have : w1.heap.size < w2.heap.size := (by omega)); (try have : w1.heap.size < w2.heap.size + 1 := (by omega)); (try have : w1.heap.size < w2.heap.size + 1 + 1 := (by omega)); (try have : w1.heap.size + 1 < w2.heap.size := (by omega)); (try have : w1.heap.size + 1 < w2.heap.size + 1 := (by omega)); (try have : w1.heap.size + 1 < w2.heap.size + 1 + 1 := (by omega)); (try have : w1.heap.size + 1 + 1 < w2.heap.size := (by omega)); (try have : w1.heap.size + 1 + 1 < w2.heap.size + 1 := (by omega)); (try have : w1.heap.size + 1 + 1 < w2.heap.size + 1 + 1 := (by omega))
    go_wp2_with fail
    go_wp2_with fail; refine (k0 _).mono ?_; rintro e w3 ⟨rfl, hb3⟩; obtain ⟨hc3, hf3, hz3, hlt3, hle3⟩ := cellsIf hb3 (by (try simp); exact rfl); (try have : w.heap.size < w3.heap.size := (by omega)); (try have : w.heap.size < w3.heap.size + 1 := (by omega)); (try have : w.heap.size < w3.heap.size + 1 + 1 := (by omega)); (try have : w.heap.size + 1 < w3.heap.size := (by omega)); (try have : w.heap.size + 1 < w3.heap.size + 1 := (by omega)); (try have : w.heap.size + 1 < w3.heap.size + 1 + 1 := (by omega)); (try have : w.heap.size + 1 + 1 < w3.heap.size := (by omega)); (try have : w.heap.size + 1 + 1 < w3.heap.size + 1 := (by omega)); (try have : w.heap.size + 1 + 1 < w3.heap.size + 1 + 1 := (by omega)); (try have : w1.heap.size < w3.heap.size := (by omega)); (try have : w1.heap.size < w3.heap.size + 1 := (by omega)); (try have : w1.heap.size < w3.heap.size + 1 + 1 := (by omega)); (try have : w1.heap.size + 1 < w3.heap.size := (by omega)); (try have : w1.heap.size + 1 < w3.heap.size + 1 := (by omega)); (try have : w1.heap.size + 1 < w3.heap.size + 1 + 1 := (by omega)); (try have : w1.heap.size + 1 + 1 < w3.heap.size := (by omega)); (try have : w1.heap.size + 1 + 1 < w3.heap.size + 1 := (by omega)); (try have : w1.heap.size + 1 + 1 < w3.heap.size + 1 + 1 := (by omega)); (try have : w2.heap.size < w3.heap.size := (by omega)); (try have : w2.heap.size < w3.heap.size + 1 := (by omega)); (try have : w2.heap.size < w3.heap.size + 1 + 1 := (by omega)); (try have : w2.heap.size + 1 < w3.heap.size := (by omega)); (try have : w2.heap.size + 1 < w3.heap.size + 1 := (by omega)); (try have : w2.heap.size + 1 < w3.heap.size + 1 + 1 := (by omega)); (try have : w2.heap.size + 1 + 1 < w3.heap.size := (by omega)); (try have : w2.heap.size + 1 + 1 < w3.heap.size + 1 := (by omega)); (try have : w2.heap.size + 1 + 1 < w3.heap.size + 1 + 1 := (by omega))
    go_wp2
    go_ret
    exact ⟨rfl, by repeat (first | exact Below.refl _ _ | refine below_dN ?_ _ | refine Below.drew ?_ | refine Below.alloc ?_ (by first | omega | (simp; done) | (simp; omega)) _ | refine Below.setCell ?_ (by first | omega | (simp; done) | (simp; omega)) _ | refine below_step (by assumption) (by first | omega | (simp; done) | (simp; omega)) ?_)⟩
  have hS := small_of e1
  rw [e1] at k1
  by_cases e2 : (20 : Int) < s.length
  · clear k2
    have e3 : decide ((20 : Int) < s.length) = true := by simpa using e2
    go_enter Try.func4, Try.ntmps4
    go_wp2_with fail; refine (k0 _).mono ?_; rintro e w1 ⟨rfl, hb1⟩; obtain ⟨hc1, hf1, hz1, hlt1, hle1⟩ := cellsIf hb1 (by (try simp); exact rfl); (try have : w.heap.size < w1.heap.size := (by omega)); (try have : w.heap.size < w1.heap.size + 1 := (by omega)); (try have : w.heap.size < w1.heap.size + 1 + 1 := (by omega)); (try have : w.heap.size + 1 < w1.heap.size := (by omega)); (try have : w.heap.size + 1 < w1.heap.size + 1 := (by omega)); (try have : w.heap.size + 1 < w1.heap.size + 1 + 1 := (by omega)); (try have : w.heap.size + 1 + 1 < w1.heap.size := (by omega)); (try have : w.heap.size + 1 + 1 < w1.heap.size + 1 := (by omega)); (try have : w.heap.size + 1 + 1 < w1.heap.size + 1 + 1 := (by omega))
    go_wp2_with fail; refine (k1 _ (by repeat (first | exact Below.refl _ _ | refine below_dN ?_ _ | refine Below.drew ?_ | refine Below.alloc ?_ (by first | omega | (simp; done) | (simp; omega)) _ | refine Below.setCell ?_ (by first | omega | (simp; done) | (simp; omega)) _ | refine below_step (by assumption) (by first | omega | (simp; done) | (simp; omega)) ?_))).mono ?_; rintro e w2 ⟨rfl, hb2⟩; obtain ⟨hc2, hf2, hz2, hlt2, hle2⟩ := cellsIf hb2 (by (try simp); exact rfl); (try have : w.heap.size < w2.heap.size := (by omega)); (try have : w.heap.size < w2.heap.size + 1 := (by omega)); (try have : w.heap.size < w2.heap.size + 1 + 1 := (by omega)); (try have : w.heap.size + 1 < w2.heap.size := (by omega)); (try have : w.heap.size + 1 < w2.heap.size + 1 := (by omega)); (try have : w.heap.size + 1 < w2.heap.size + 1 + 1 := (by omega)); (try have : w.heap.size + 1 + 1 < w2.heap.size := (by omega)); (try have : w.heap.size + 1 + 1 < w2.heap.size + 1 := (by omega)); (try have : w.heap.size + 1 + 1 < w2.heap.size + 1 + 1 := (by omega)); (try have : w1.heap.size < w2.heap.size := (by omega)); (try have : w1.heap.size < w2.heap.size + 1 := (by omega)); (try have : w1.heap.size < w2.heap.size + 1 + 1 := (by omega)); (try have : w1.heap.size + 1 < w2.heap.size := (by omega)); (try have : w1.heap.size + 1 < w2.heap.size + 1 := (by omega)); (try have : w1.heap.size + 1 < w2.heap.size + 1 + 1 := (by omega)); (try have : w1.heap.size + 1 + 1 < w2.heap.size := (by omega)); (try have : w1.heap.size + 1 + 1 < w2.heap.size + 1 := (by omega)); (try have : w1.heap.size + 1 + 1 < w2.heap.size + 1 + 1 := (by omega))
    go_wp2_with fail
    go_wp2_with fail; refine (k0 _).mono ?_; rintro e w3 ⟨rfl, hb3⟩; obtain ⟨hc3, hf3, hz3, hlt3, hle3⟩ := cellsIf hb3 (by (try simp); exact rfl); (try have : w.heap.size < w3.heap.size := (by omega)); (try have : w.heap.size < w3.heap.size + 1 := (by omega)); (try have : w.heap.size < w3.heap.size + 1 + 1 := (by omega)); (try have : w.heap.size + 1 < w3.heap.size := (by omega)); (try have : w.heap.size + 1 < w3.heap.size + 1 := (by omega)); (try have : w.heap.size + 1 < w3.heap.size + 1 + 1 := (by omega)); (try have : w.heap.size + 1 + 1 < w3.heap.size := (by omega)); (try have : w.heap.size + 1 + 1 < w3.heap.size + 1 := (by omega)); (try have : w.heap.size + 1 + 1 < w3.heap.size + 1 + 1 := (by omega)); (try have : w1.heap.size < w3.heap.size := (by omega)); (try have : w1.heap.size < w3.heap.size + 1 := (by omega)); (try have : w1.heap.size < w3.heap.size + 1 + 1 := (by omega)); (try have : w1.heap.size + 1 < w3.heap.size := (by omega)); (try have : w1.heap.size + 1 < w3.heap.size + 1 := (by omega)); (try have : w1.heap.size + 1 < w3.heap.size + 1 + 1 := (by omega)); (try have : w1.heap.size + 1 + 1 < w3.heap.size := (by omega)); (try have : w1.heap.size + 1 + 1 < w3.heap.size + 1 := (by omega)); (try have : w1.heap.size + 1 + 1 < w3.heap.size + 1 + 1 := (by omega)); (try have : w2.heap.size < w3.heap.size := (by omega)); (try have : w2.heap.size < w3.heap.size + 1 := (by omega)); (try have : w2.heap.size < w3.heap.size + 1 + 1 := (by omega)); (try have : w2.heap.size + 1 < w3.heap.size := (by omega)); (try have : w2.heap.size + 1 < w3.heap.size + 1 := (by omega)); (try have : w2.heap.size + 1 < w3.heap.size + 1 + 1 := (by omega)); (try have : w2.heap.size + 1 + 1 < w3.heap.size := (by omega)); (try have : w2.heap.size + 1 + 1 < w3.heap.size + 1 := (by omega)); (try have : w2.heap.size + 1 + 1 < w3.heap.size + 1 + 1 := (by omega))
    go_wp2
    go_ret
    exact ⟨rfl, by repeat (first | exact Below.refl _ _ | refine below_dN ?_ _ | refine Below.drew ?_ | refine Below.alloc ?_ (by first | omega | (simp; done) | (simp; omega)) _ | refine Below.setCell ?_ (by first | omega | (simp; done) | (simp; omega)) _ | refine below_step (by assumption) (by first | omega | (simp; done) | (simp; omega)) ?_)⟩
  have e3 : decide ((20 : Int) < s.length) = false := by simpa using e2
  have K2 := Lib.hid (fun w1 => k2 w1 hS.chk)
  have K4 := Lib.hid (fun q G wx (hF : FindAt wx G t q) (hs : IntsAt wx wx.heap.size AS s) => lfacts_any t q G s AS cs wx hF hs hS.right)
  have K5 := Lib.hid (fun q G wx (hF : FindAt wx G t q) (hs : IntsAt wx wx.heap.size AS s) => lorders_any t q G s AS cs wx hF hs hS)
  have K6 := Lib.hid (fun q G a1 a2 b1 b2 wx (hF : FindAt wx G t q) (hs : IntsAt wx wx.heap.size AS s) => lBefore_any t q G s AS cs a1 a2 b1 b2 wx hF hs hS.right)
  have HS := Lib.hid hS
  clear k2 e1 hS
  go_enter Try.func4, Try.ntmps4
  go_wp2_with fail; refine (k0 _).mono ?_; rintro e w1 ⟨rfl, hb1⟩; obtain ⟨hc1, hf1, hz1, hlt1, hle1⟩ := cellsIf hb1 (by (try simp); exact rfl); (try have : w.heap.size < w1.heap.size := (by omega)); (try have : w.heap.size < w1.heap.size + 1 := (by omega)); (try have : w.heap.size < w1.heap.size + 1 + 1 := (by omega)); (try have : w.heap.size + 1 < w1.heap.size := (by omega)); (try have : w.heap.size + 1 < w1.heap.size + 1 := (by omega)); (try have : w.heap.size + 1 < w1.heap.size + 1 + 1 := (by omega)); (try have : w.heap.size + 1 + 1 < w1.heap.size := (by omega)); (try have : w.heap.size + 1 + 1 < w1.heap.size + 1 := (by omega)); (try have : w.heap.size + 1 + 1 < w1.heap.size + 1 + 1 := (by omega))
  go_wp2_with fail; refine (k1 _ (by repeat (first | exact Below.refl _ _ | refine below_dN ?_ _ | refine Below.drew ?_ | refine Below.alloc ?_ (by first | omega | (simp; done) | (simp; omega)) _ | refine Below.setCell ?_ (by first | omega | (simp; done) | (simp; omega)) _ | refine below_step (by assumption) (by first | omega | (simp; done) | (simp; omega)) ?_))).mono ?_; rintro e w2 ⟨rfl, hb2⟩; obtain ⟨hc2, hf2, hz2, hlt2, hle2⟩ := cellsIf hb2 (by (try simp); exact rfl); (try have : w.heap.size < w2.heap.size := (by omega)); (try have : w.heap.size < w2.heap.size + 1 := (by omega)); (try have : w.heap.size < w2.heap.size + 1 + 1 := (by omega)); (try have : w.heap.size + 1 < w2.heap.size := (by omega)); (try have : w.heap.size + 1 < w2.heap.size + 1 := (by omega)); (try have : w.heap.size + 1 < w2.heap.size + 1 + 1 := (by omega)); (try have : w.heap.size + 1 + 1 < w2.heap.size := (by omega)); (try have : w.heap.size + 1 + 1 < w2.heap.size + 1 := (by omega)); (try have : w.heap.size + 1 + 1 < w2.heap.size + 1 + 1 := (by omega)); (try have : w1.heap.size < w2.heap.size := (by omega)); (try have : w1.heap.size < w2.heap.size + 1 := (by omega)); (try have : w1.heap.size < w2.heap.size + 1 + 1 := (by omega)); (try have : w1.heap.size + 1 < w2.heap.size := (by omega)); (try have : w1.heap.size + 1 < w2.heap.size + 1 := (by omega)); (try have : w1.heap.size + 1 < w2.heap.size + 1 + 1 := (by omega)); (try have : w1.heap.size + 1 + 1 < w2.heap.size := (by omega)); (try have : w1.heap.size + 1 + 1 < w2.heap.size + 1 := (by omega)); (try have : w1.heap.size + 1 + 1 < w2.heap.size + 1 + 1 := (by omega))
  have hbw2 : Below w.heap.size w w2 := by repeat (first | exact Below.refl _ _ | refine below_dN ?_ _ | refine Below.drew ?_ | refine Below.alloc ?_ (by first | omega | (simp; done) | (simp; omega)) _ | refine Below.setCell ?_ (by first | omega | (simp; done) | (simp; omega)) _ | refine below_step (by assumption) (by first | omega | (simp; done) | (simp; omega)) ?_)
  have hbx2 : Boxed w2 w.heap.size t ⟨av, ai, ag, ao, cv, ci, cg, co⟩ := by
    have h0 : Boxed (w.alloc (.cells #[.slice av t.vars.length cv, .slice ai t.init.length ci, .slice ag t.goal.length cg, .slice ao t.ops.length co] 26)) w.heap.size t ⟨av, ai, ag, ao, cv, ci, cg, co⟩ := by constructor <;> simp
    exact (h0.up hb1).up hb2
  have z2 := hbw2.size
  clear hc1 hc2 hf1 hf2 hlt1 hlt2 hle1 hle2 hz1 hz2 hb1 hb2 k0 k1
  obtain ⟨z0, y0, y1, y2, y3⟩ := id hbx2
  dsimp only at y0 y1 y2 y3
  go_wp2_with fail
  refine (K2.out _ hbw2).mono ?_
  rintro e w3 ⟨⟨G, q, rfl, hF⟩, hb3⟩
  have hbw3 := hbw2.trans (hb3.mono z2)
  have z3 := hbw3.size
  clear z0 y0 y1 y2 y3 hbx2 hb3
  go_wp2_with fail
  refine (K4.out q G _ hF (hs.up hbw3)).mono ?_
  rintro e w4 ⟨⟨v4, rfl, A4, c4, rfl, _, hf4⟩, hb4⟩
  have hbw4 := hbw3.trans (hb4.mono z3)
  have hF4 := hF.up hb4
  have z4 := hbw4.size
  clear hb4
  go_wp2_with fail
  refine (K5.out q G _ hF4 (hs.up hbw4)).mono ?_
  rintro e w5 ⟨⟨v5, rfl, A5, c5, rfl, hP5⟩, hb5⟩
  have hbw5 := hbw4.trans (hb5.mono z4)
  have hf5 := Lib.hid (hf4.up hb5)
  have hF5 := hF4.up hb5
  have hs5 := hs.up hbw5
  have z5 := hbw5.size
  have HP := Lib.hid hP5
  have hln := lmL_len (s := s) HS.out
  have hrg := fun k hk => lmL_rng (t := t) (s := s) (k := k) hk
  have hbe : ∀ k j, k < (lmL t s).length → j < (lmL t s).length → bfR t s (fv (lmL t s) k) (fx (lmL t s) k) (fv (lmL t s) j) (fx (lmL t s) j) = ordB t s (fac (lmL t s) k) (fac (lmL t s) j) := fun k j hk hj => by
    obtain ⟨a1, a2, a3⟩ := hrg k hk
    obtain ⟨b1, b2, b3⟩ := hrg j hj
    unfold fac at a3 b3
    have hst : stB t.vars s = true := by
      cases e : stB t.vars s
      · unfold lmC at a1; rw [e] at a1; cases a1
      · rfl
    have hg : hsM t.goal (rcB t s noF) = true := by
      cases e : hsM t.goal (rcB t s noF)
      · unfold lmC at a1; rw [hst, e] at a1; cases a1
      · rfl
    have h6 := lm_rch hg (mem_lmks.1 b2).2.2
    unfold fac at h6
    unfold bfR befB ordB
    rw [hst, a3, b3]
    show (true && (true && (true && (decide ((_, _) ≠ (_, _)) && (rcB t s noF (fv (lmL t s) j).toNat (fx (lmL t s) j).toNat && _))))) = _
    rw [h6]
    simp [fac]
  have Hbe := Lib.hid hbe
  obtain ⟨F, hFe⟩ : ∃ F, F = lmL t s := ⟨_, rfl⟩
  rw [← hFe] at hf5 HP hln Hbe
  rw [← hFe]
  obtain ⟨O, hO⟩ : ∃ O, O = orL t s F := ⟨_, rfl⟩
  have HO := Lib.hid hO
  rw [← hO] at HP
  rw [← hO]
  have hOl := HP.out.1
  clear hrg hbe hFe hP5 hf4 hF hF4 hb5 hO
  go_wp2_with fail
  refine (num_any (lmC t s) _).mono ?_
  rintro e w7 ⟨rfl, rfl⟩
  go_wp2_with fail
  refine (num_any (lmC t s) _).mono ?_
  rintro e w7 ⟨rfl, rfl⟩
  go_wp2
  go_loopw [10, 54] (fun v i wr => ∃ (k : Nat), k ≤ F.length ∧ i = .int .i64 k ∧ v = .int .i64 (orN t s F k).length ∧ Below w5.heap.size w5 wr) (fun _ i _ => F.length - (intOf i).toNat)
  case atStart => exact ⟨0, by omega, rfl, rfl, Below.refl _ _⟩
  case round =>
    obtain ⟨k, hk, rfl, rfl, hbel⟩ := hrel
    have hbz := hbel.size
    by_cases hlt : k < F.length
    · obtain ⟨b1, o1, ea, hb1, hc1⟩ := hf5.out.at_ hlt
      subst ea
      have d1 := (hbel.cell (p := ⟨b1, o1 + k * 2, none⟩) hb1).trans (hc1 k hlt).1
      have d2 := (hbel.cell (p := ⟨b1, o1 + k * 2 + 1, none⟩) hb1).trans (hc1 k hlt).2
      have g1 : b1 < wr.heap.size := by omega
      have Hc1 := Lib.hid hc1
      have k0 : (0 : Int) ≤ (k : Int) := by omega
      have k1 : (k : Int) < (F.length : Int) := by omega
      obtain ⟨wo, rfl⟩ : ∃ wo : World, wo = wr := ⟨_, rfl⟩
      have hbA : Below wo.heap.size wo (wo.alloc (.cells #[.int .i64 (fv F k), .int .i64 (fx F k)] 28)) := (Below.refl _ _).alloc (Nat.le_refl _) _
      have s0 : (wo.alloc (.cells #[.int .i64 (fv F k), .int .i64 (fx F k)] 28)).cell? ⟨wo.heap.size, 0, none⟩ = some (.int .i64 (fv F k)) := by simp
      have s1 : (wo.alloc (.cells #[.int .i64 (fv F k), .int .i64 (fx F k)] 28)).cell? ⟨wo.heap.size, 1, none⟩ = some (.int .i64 (fx F k)) := by simp
      have S0 := Lib.hid s0
      have S1 := Lib.hid s1
      have hlenk : (orN t s F k).length ≤ 1000000 := Nat.le_trans (orN_len k) (Nat.le_trans (Nat.mul_le_mul (show k ≤ 768 by omega) hln) (by decide))
      clear hc1 s0 s1
      go_wp2
      go_loopw [10, 60] (fun v i wr => ∃ (j : Nat), j ≤ F.length ∧ i = .int .i64 j ∧ v = .int .i64 (orK t s F k j).length ∧ Below (wo.heap.size + 1) (wo.alloc (.cells #[.int .i64 (fv F k), .int .i64 (fx F k)] 28)) wr) (fun _ i _ => F.length - (intOf i).toNat)
      case atStart => exact ⟨0, by omega, rfl, by rw [orK_zero], Below.refl _ _⟩
      case round =>
        clear d1 d2 g1
        obtain ⟨j, hj, rfl, rfl, hb6⟩ := hrel
        have hbor : Below wo.heap.size wo wr := hbA.trans (hb6.mono (Nat.le_succ _))
        have hb5r := hbel.trans (hbor.mono hbz)
        have z6 := hb6.size
        simp only [World.size_alloc] at z6
        have s0 := (hb6.cell (p := ⟨wo.heap.size, 0, none⟩) (Nat.lt_succ_self _)).trans S0.out
        have s1 := (hb6.cell (p := ⟨wo.heap.size, 1, none⟩) (Nat.lt_succ_self _)).trans S1.out
        have g2 : wo.heap.size < wr.heap.size := by omega
        by_cases hltj : j < F.length
        · have d1 := (hb5r.cell (p := ⟨b1, o1 + j * 2, none⟩) hb1).trans (Hc1.out j hltj).1
          have d2 := (hb5r.cell (p := ⟨b1, o1 + j * 2 + 1, none⟩) hb1).trans (Hc1.out j hltj).2
          have g1 : b1 < wr.heap.size := by omega
          have j0 : (0 : Int) ≤ (j : Int) := by omega
          have j1 : (j : Int) < (F.length : Int) := by omega
          have hbB : Below wr.heap.size wr (wr.alloc (.cells #[.int .i64 (fv F j), .int .i64 (fx F j)] 28)) := (Below.refl _ _).alloc (Nat.le_refl _) _
          have hb5B := hb5r.trans (hbB.mono hb5r.size)
          have K7 := Lib.hid (K6.out q G (fv F k) (fx F k) (fv F j) (fx F j) _ (hF5.up hb5B) (hs5.up hb5B))
          rw [Hbe.out k j hlt hltj] at K7
          have Hyes := Lib.hid (fun h => orK_yes (t := t) (s := s) (k := k) hltj h)
          have Hno := Lib.hid (fun h => orK_no (t := t) (s := s) (k := k) hltj h)
          cases e2 : ordB t s (fac F k) (fac F j)
          · have Hs := Lib.hid (Hno.out e2)
            rw [e2] at K7
            clear Hyes Hno e2
            go_wp2_with fail
            refine K7.out.mono ?_
            rintro e w8 ⟨rfl, hb8⟩
            have hb68 : Below (wo.heap.size + 1) (wo.alloc (.cells #[.int .i64 (fv F k), .int .i64 (fx F k)] 28)) w8 := hb6.trans ((hbB.trans (hb8.mono (by simp))).mono z6)
            go_wp2
            go_roundw
            case rel => exact ⟨j + 1, by omega, by go_num, by rw [Hs.out], hb68⟩
            case measure => simp [intOf]; omega
          · have Hs := Lib.hid (Hyes.out e2)
            obtain ⟨hm1, hm2⟩ := orK_at (t := t) (s := s) hlt hltj e2
            rw [← HO.out] at hm1 hm2
            rw [e2] at K7
            clear Hyes Hno e2
            obtain ⟨b2, eb, hb2, hc2⟩ := HP.out.2 (by omega)
            subst eb
            obtain ⟨m, hm⟩ : ∃ m, m = (orK t s F k j).length := ⟨_, rfl⟩
            rw [← hm] at hm1 hm2
            rw [← hm]
            obtain ⟨x0, x1, x2, x3⟩ := hc2 m hm1
            rw [hm2] at x0 x1 x2 x3
            simp only [fac] at x0 x1 x2 x3
            have Hm := Lib.hid hm
            clear hc2 hm hm2
            go_wp2_with fail
            refine K7.out.mono ?_
            rintro e w8 ⟨rfl, hb8⟩
            have hbr8 : Below wr.heap.size wr w8 := hbB.trans (hb8.mono (by simp))
            have hb68 : Below (wo.heap.size + 1) (wo.alloc (.cells #[.int .i64 (fv F k), .int .i64 (fx F k)] 28)) w8 := hb6.trans (hbr8.mono z6)
            have hb58 := hb5r.trans (hbr8.mono hb5r.size)
            have t0 := (hbr8.cell (p := ⟨wo.heap.size, 0, none⟩) g2).trans s0
            have t1 := (hbr8.cell (p := ⟨wo.heap.size, 1, none⟩) g2).trans s1
            have t2 : w8.cell? ⟨wr.heap.size, 0, none⟩ = some (.int .i64 (fv F j)) := (hb8.cell (p := ⟨wr.heap.size, 0, none⟩) (by simp)).trans (by simp)
            have t3 : w8.cell? ⟨wr.heap.size, 1, none⟩ = some (.int .i64 (fx F j)) := (hb8.cell (p := ⟨wr.heap.size, 1, none⟩) (by simp)).trans (by simp)
            have x0' := (hb58.cell (p := ⟨b2, m * 4, none⟩) hb2).trans x0
            have x1' := (hb58.cell (p := ⟨b2, m * 4 + 1, none⟩) hb2).trans x1
            have x2' := (hb58.cell (p := ⟨b2, m * 4 + 2, none⟩) hb2).trans x2
            have x3' := (hb58.cell (p := ⟨b2, m * 4 + 3, none⟩) hb2).trans x3
            have z8 : wr.heap.size < w8.heap.size := by have := hb8.size; simp at this; omega
            have g28 : wo.heap.size < w8.heap.size := by omega
            have g58 : b2 < w8.heap.size := by have := hb58.size; omega
            have m0 : (0 : Int) ≤ (m : Int) := by omega
            have m1 : (m : Int) < (O.length : Int) := by omega
            have hd : decide ((O.length : Int) ≤ (m : Int)) = false := by simp; omega
            have hd2 : decide (O.length ≤ m) = false := by simp; omega
            have hneq := neqP2 (fv F k) (fx F k) (fv F j) (fx F j)
            clear hb8 x0 x1 x2 x3 s0 s1
            go_wp2_with fail
            go_quiet (fail)
            go_wp2
            go_roundw
            case rel => exact ⟨j + 1, by omega, by go_num, by rw [Hs.out, List.length_append, ← Hm.out]; go_num, by first | exact hb68.drew | exact hb68 | (exact below_dN hb68 _)⟩
            case measure => simp [intOf]; omega
        · obtain rfl : j = F.length := by omega
          have Hl := Lib.hid (show (orK t s F k F.length).length = (orN t s F (k + 1)).length by rw [orK_end])
          go_wp2
          go_roundw
          case rel => exact ⟨k + 1, by omega, by go_num, by rw [Hl.out], hb5r⟩
          case measure => simp [intOf]; omega
    · obtain rfl : k = F.length := by omega
      have hl : (orN t s F F.length).length = O.length := by rw [HO.out]; rfl
      have he : (((orN t s F F.length).length : Int) == (O.length : Int)) = true := by rw [hl]; simp
      have he2 : decide ((orN t s F F.length).length = O.length) = true := by rw [hl]; simp
      have Hl := Lib.hid hl
      clear hl
      go_wp2
      go_ret
      exact ⟨by first | rfl | simp [Hl.out], hbw5.trans (hbel.mono z5)⟩

end Go.Proofs.Ythhfckjddknmeaa

/- The law LandmarkCuts. -/
import Derived.Test.YthhfckjddknmeaaLmCx
import Derived.Test.YthhfckjddknmeaaLmV
namespace Go.Proofs.Ythhfckjddknmeaa
set_option linter.unusedSimpArgs false
set_option linter.unusedVariables false
open Go Go.RowKit
set_option linter.unusedVariables false

set_option maxRecDepth 100000 in
set_option maxHeartbeats 8000000 in
theorem landmarkCuts_any (t : Tsk) (p : Lies) (s : List Int) (AS : Option Addr) (cs : Nat) (w : World) (ht : TaskAt w w.heap.size t p) (hs : IntsAt w w.heap.size AS s) :
    Calls Try.prog 6 #[TaskV t p, .slice AS s.length cs] w fun e w' => e = .returned (.bool true) ∧ Below w.heap.size w w' := by
  have k0 := fun w1 => awake36_any w1
  have k1 := fun w1 (hb : Below w.heap.size w w1) => small_any t p w1 (ht.up hb)
  have k2 := fun w1 h (hb : Below w.heap.size w w1) => new_any t p w1 (ht.up hb) h
  have k3 := fun w1 h (hb : Below w.heap.size w w1) => rcuts_any t p s AS cs w1 (ht.up hb) (hs.up hb) h
  obtain ⟨av, ai, ag, ao, cv, ci, cg, co⟩ := p
  unfold TaskV at *
  dsimp only at *
  cases e1 : smB t
  · rw [e1] at k1
    clear k2 k3
    go_enter Try.func6, Try.ntmps6
    go_wp2_with fail; refine (k0 _).mono ?_; rintro e w1 ⟨rfl, hb1⟩; obtain ⟨hc1, hf1, hz1, hlt1, hle1⟩ := cellsIf hb1 (by (try simp); exact rfl); (try have : w.heap.size < w1.heap.size := (by omega)); (try have : w.heap.size < w1.heap.size + 1 := (by omega)); (try have : w.heap.size < w1.heap.size + 1 + 1 := (by omega)); (try have : w.heap.size + 1 < w1.heap.size := (by omega)); (try have : w.heap.size + 1 < w1.heap.size + 1 := (by omega)); (try have : w.heap.size + 1 < w1.heap.size + 1 + 1 := (by omega)); (try have : w.heap.size + 1 + 1 < w1.heap.size := (by omega)); (try have : w.heap.size + 1 + 1 < w1.heap.size + 1 := (by omega)); (try have : w.heap.size + 1 + 1 < w1.heap.size + 1 + 1 := (by omega))
    go_wp2_with fail; refine (k1 _ (by repeat (first | exact Below.refl _ _ | refine below_dN ?_ _ | refine Below.drew ?_ | refine Below.alloc ?_ (by first | omega | (simp; done) | (simp; omega)) _ | refine Below.setCell ?_ (by first | omega | (simp; done) | (simp; omega)) _ | refine below_step (by assumption) (by first | omega | (simp; done) | (simp; omega)) ?_))).mono ?_; rintro e w2 ⟨rfl, hb2⟩; obtain ⟨hc2, hf2, hz2, hlt2, hle2⟩ := cellsIf hb2 (by (try simp); exact rfl); (try have : w.heap.size < w2.heap.size := (by omega)); (try have : w.heap.size < w2.heap.size + 1 := (by omega)); (try have : w.heap.size < w2.heap.size + 1 + 1 := (by omega)); (try have : w.heap.size + 1 < w2.heap.size := (by omega)); (try have : w.heap.size + 1 < w2.heap.size + 1 := (by omega)); (try have : w.heap.size + 1 < w2.heap.size + 1 + 1 := (by omega)); (try have : w.heap.size + 1 + 1 < w2.heap.size := (by omega)); (try have : w.heap.size + 1 + 1 < w2.heap.size + 1 := (by omega)); (try have : w.heap.size + 1 + 1 < w2.heap.size + 1 + 1 := (by omega)); (try have : w1.heap.size < w2.heap.size := (by omega)); (try have : w1.heap.size < w2.heap.size + 1 := (by omega)); (try have : w1.heap.size < w2.heap.size + 1 + 1 := (by omega)); (try have : w1.heap.size + 1 < w2.heap.size := (by omega)); (try have : w1.heap.size + 1 < w2.heap.size + 1 := (by omega)); (try have : w1.heap.size + 1 < w2.heap.size + 1 + 1 := (by omega)); (try have : w1.heap.size + 1 + 1 < w2.heap.size := (by omega)); (try have : w1.heap.size + 1 + 1 < w2.heap.size + 1 := (by omega)); (try have : w1.heap.size + 1 + 1 < w2.heap.size + 1 + 1 := (by omega))
    go_wp2_with fail
    go_wp2_with fail; refine (k0 _).mono ?_; rintro e w3 ⟨rfl, hb3⟩; obtain ⟨hc3, hf3, hz3, hlt3, hle3⟩ := cellsIf hb3 (by (try simp); exact rfl); (try have : w.heap.size < w3.heap.size := (by omega)); (try have : w.heap.size < w3.heap.size + 1 := (by omega)); (try have : w.heap.size < w3.heap.size + 1 + 1 := (by omega)); (try have : w.heap.size + 1 < w3.heap.size := (by omega)); (try have : w.heap.size + 1 < w3.heap.size + 1 := (by omega)); (try have : w.heap.size + 1 < w3.heap.size + 1 + 1 := (by omega)); (try have : w.heap.size + 1 + 1 < w3.heap.size := (by omega)); (try have : w.heap.size + 1 + 1 < w3.heap.size + 1 := (by omega)); (try have : w.heap.size + 1 + 1 < w3.heap.size + 1 + 1 := (by omega)); (try have : w1.heap.size < w3.heap.size := (by omega)); (try have : w1.heap.size < w3.heap.size + 1 := (by omega)); (try have : w1.heap.size < w3.heap.size + 1 + 1 := (by omega)); (try have : w1.heap.size + 1 < w3.heap.size := (by omega)); (try have : w1.heap.size + 1 < w3.heap.size + 1 := (by omega)); (try have : w1.heap.size + 1 < w3.heap.size + 1 + 1 := (by omega)); (try have : w1.heap.size + 1 + 1 < w3.heap.size := (by omega)); (try have : w1.heap.size + 1 + 1 < w3.heap.size + 1 := (by omega)); (try have : w1.heap.size + 1 + 1 < w3.heap.size + 1 + 1 := (by omega)); (try have : w2.heap.size < w3.heap.size := (by omega)); (try have : w2.heap.size < w3.heap.size + 1 := (by omega)); (try have : w2.heap.size < w3.heap.size + 1 + 1 := (by omega)); (try have : w2.heap.size + 1 < w3.heap.size := (by omega)); (try have : w2.heap.size + 1 < w3.heap.size + 1 := (by omega)); (try have : w2.heap.size + 1 < w3.heap.size + 1 + 1 := (by omega)); (try have : w2.heap.size + 1 + 1 < w3.heap.size := (by omega)); (try have : w2.heap.size + 1 + 1 < w3.heap.size + 1 := (by omega)); (try have : w2.heap.size + 1 + 1 < w3.heap.size + 1 + 1 := (by omega))
    go_wp2
    go_ret
    exact ⟨rfl, by repeat (first | exact Below.refl _ _ | refine below_dN ?_ _ | refine Below.drew ?_ | refine Below.alloc ?_ (by first | omega | (simp; done) | (simp; omega)) _ | refine Below.setCell ?_ (by first | omega | (simp; done) | (simp; omega)) _ | refine below_step (by assumption) (by first | omega | (simp; done) | (simp; omega)) ?_)⟩
  have hS := small_of e1
  rw [e1] at k1
  by_cases e2 : (20 : Int) < s.length
  · clear k2 k3
    have e3 : decide ((20 : Int) < s.length) = true := by simpa using e2
    go_enter Try.func6, Try.ntmps6
    go_wp2_with fail; refine (k0 _).mono ?_; rintro e w1 ⟨rfl, hb1⟩; obtain ⟨hc1, hf1, hz1, hlt1, hle1⟩ := cellsIf hb1 (by (try simp); exact rfl); (try have : w.heap.size < w1.heap.size := (by omega)); (try have : w.heap.size < w1.heap.size + 1 := (by omega)); (try have : w.heap.size < w1.heap.size + 1 + 1 := (by omega)); (try have : w.heap.size + 1 < w1.heap.size := (by omega)); (try have : w.heap.size + 1 < w1.heap.size + 1 := (by omega)); (try have : w.heap.size + 1 < w1.heap.size + 1 + 1 := (by omega)); (try have : w.heap.size + 1 + 1 < w1.heap.size := (by omega)); (try have : w.heap.size + 1 + 1 < w1.heap.size + 1 := (by omega)); (try have : w.heap.size + 1 + 1 < w1.heap.size + 1 + 1 := (by omega))
    go_wp2_with fail; refine (k1 _ (by repeat (first | exact Below.refl _ _ | refine below_dN ?_ _ | refine Below.drew ?_ | refine Below.alloc ?_ (by first | omega | (simp; done) | (simp; omega)) _ | refine Below.setCell ?_ (by first | omega | (simp; done) | (simp; omega)) _ | refine below_step (by assumption) (by first | omega | (simp; done) | (simp; omega)) ?_))).mono ?_; rintro e w2 ⟨rfl, hb2⟩; obtain ⟨hc2, hf2, hz2, hlt2, hle2⟩ := cellsIf hb2 (by (try simp); exact rfl); (try have : w.heap.size < w2.heap.size := (by omega)); (try have : w.heap.size < w2.heap.size + 1 := (by omega)); (try have : w.heap.size < w2.heap.size + 1 + 1 := (by omega)); (try have : w.heap.size + 1 < w2.heap.size := (by omega)); (try have : w.heap.size + 1 < w2.heap.size + 1 := (by omega)); (try have : w.heap.size + 1 < w2.heap.size + 1 + 1 := (by omega)); (try have : w.heap.size + 1 + 1 < w2.heap.size := (by omega)); (try have : w.heap.size + 1 + 1 < w2.heap.size + 1 := (by omega)); (try have : w.heap.size + 1 + 1 < w2.heap.size + 1 + 1 := (by omega)); (try have : w1.heap.size < w2.heap.size := (by omega)); (try have : w1.heap.size < w2.heap.size + 1 := (by omega)); (try have : w1.heap.size < w2.heap.size + 1 + 1 := (by omega)); (try have : w1.heap.size + 1 < w2.heap.size := (by omega)); (try have : w1.heap.size + 1 < w2.heap.size + 1 := (by omega)); (try have : w1.heap.size + 1 < w2.heap.size + 1 + 1 := (by omega)); (try have : w1.heap.size + 1 + 1 < w2.heap.size := (by omega)); (try have : w1.heap.size + 1 + 1 < w2.heap.size + 1 := (by omega)); (try have : w1.heap.size + 1 + 1 < w2.heap.size + 1 + 1 := (by omega))
    go_wp2_with fail
    go_wp2_with fail; refine (k0 _).mono ?_; rintro e w3 ⟨rfl, hb3⟩; obtain ⟨hc3, hf3, hz3, hlt3, hle3⟩ := cellsIf hb3 (by (try simp); exact rfl); (try have : w.heap.size < w3.heap.size := (by omega)); (try have : w.heap.size < w3.heap.size + 1 := (by omega)); (try have : w.heap.size < w3.heap.size + 1 + 1 := (by omega)); (try have : w.heap.size + 1 < w3.heap.size := (by omega)); (try have : w.heap.size + 1 < w3.heap.size + 1 := (by omega)); (try have : w.heap.size + 1 < w3.heap.size + 1 + 1 := (by omega)); (try have : w.heap.size + 1 + 1 < w3.heap.size := (by omega)); (try have : w.heap.size + 1 + 1 < w3.heap.size + 1 := (by omega)); (try have : w.heap.size + 1 + 1 < w3.heap.size + 1 + 1 := (by omega)); (try have : w1.heap.size < w3.heap.size := (by omega)); (try have : w1.heap.size < w3.heap.size + 1 := (by omega)); (try have : w1.heap.size < w3.heap.size + 1 + 1 := (by omega)); (try have : w1.heap.size + 1 < w3.heap.size := (by omega)); (try have : w1.heap.size + 1 < w3.heap.size + 1 := (by omega)); (try have : w1.heap.size + 1 < w3.heap.size + 1 + 1 := (by omega)); (try have : w1.heap.size + 1 + 1 < w3.heap.size := (by omega)); (try have : w1.heap.size + 1 + 1 < w3.heap.size + 1 := (by omega)); (try have : w1.heap.size + 1 + 1 < w3.heap.size + 1 + 1 := (by omega)); (try have : w2.heap.size < w3.heap.size := (by omega)); (try have : w2.heap.size < w3.heap.size + 1 := (by omega)); (try have : w2.heap.size < w3.heap.size + 1 + 1 := (by omega)); (try have : w2.heap.size + 1 < w3.heap.size := (by omega)); (try have : w2.heap.size + 1 < w3.heap.size + 1 := (by omega)); (try have : w2.heap.size + 1 < w3.heap.size + 1 + 1 := (by omega)); (try have : w2.heap.size + 1 + 1 < w3.heap.size := (by omega)); (try have : w2.heap.size + 1 + 1 < w3.heap.size + 1 := (by omega)); (try have : w2.heap.size + 1 + 1 < w3.heap.size + 1 + 1 := (by omega))
    go_wp2
    go_ret
    exact ⟨rfl, by repeat (first | exact Below.refl _ _ | refine below_dN ?_ _ | refine Below.drew ?_ | refine Below.alloc ?_ (by first | omega | (simp; done) | (simp; omega)) _ | refine Below.setCell ?_ (by first | omega | (simp; done) | (simp; omega)) _ | refine below_step (by assumption) (by first | omega | (simp; done) | (simp; omega)) ?_)⟩
  have e3 : decide ((20 : Int) < s.length) = false := by simpa using e2
  have K2 := Lib.hid (fun w1 => k2 w1 hS.chk)
  have K3 := Lib.hid (fun w1 => k3 w1 hS.right)
  have K4 := Lib.hid (fun q G wx (hF : FindAt wx G t q) (hs : IntsAt wx wx.heap.size AS s) => lcuts_any t q G s AS cs wx hF hs hS.right)
  clear k2 k3 e1 hS
  go_enter Try.func6, Try.ntmps6
  go_wp2_with fail; refine (k0 _).mono ?_; rintro e w1 ⟨rfl, hb1⟩; obtain ⟨hc1, hf1, hz1, hlt1, hle1⟩ := cellsIf hb1 (by (try simp); exact rfl); (try have : w.heap.size < w1.heap.size := (by omega)); (try have : w.heap.size < w1.heap.size + 1 := (by omega)); (try have : w.heap.size < w1.heap.size + 1 + 1 := (by omega)); (try have : w.heap.size + 1 < w1.heap.size := (by omega)); (try have : w.heap.size + 1 < w1.heap.size + 1 := (by omega)); (try have : w.heap.size + 1 < w1.heap.size + 1 + 1 := (by omega)); (try have : w.heap.size + 1 + 1 < w1.heap.size := (by omega)); (try have : w.heap.size + 1 + 1 < w1.heap.size + 1 := (by omega)); (try have : w.heap.size + 1 + 1 < w1.heap.size + 1 + 1 := (by omega))
  go_wp2_with fail; refine (k1 _ (by repeat (first | exact Below.refl _ _ | refine below_dN ?_ _ | refine Below.drew ?_ | refine Below.alloc ?_ (by first | omega | (simp; done) | (simp; omega)) _ | refine Below.setCell ?_ (by first | omega | (simp; done) | (simp; omega)) _ | refine below_step (by assumption) (by first | omega | (simp; done) | (simp; omega)) ?_))).mono ?_; rintro e w2 ⟨rfl, hb2⟩; obtain ⟨hc2, hf2, hz2, hlt2, hle2⟩ := cellsIf hb2 (by (try simp); exact rfl); (try have : w.heap.size < w2.heap.size := (by omega)); (try have : w.heap.size < w2.heap.size + 1 := (by omega)); (try have : w.heap.size < w2.heap.size + 1 + 1 := (by omega)); (try have : w.heap.size + 1 < w2.heap.size := (by omega)); (try have : w.heap.size + 1 < w2.heap.size + 1 := (by omega)); (try have : w.heap.size + 1 < w2.heap.size + 1 + 1 := (by omega)); (try have : w.heap.size + 1 + 1 < w2.heap.size := (by omega)); (try have : w.heap.size + 1 + 1 < w2.heap.size + 1 := (by omega)); (try have : w.heap.size + 1 + 1 < w2.heap.size + 1 + 1 := (by omega)); (try have : w1.heap.size < w2.heap.size := (by omega)); (try have : w1.heap.size < w2.heap.size + 1 := (by omega)); (try have : w1.heap.size < w2.heap.size + 1 + 1 := (by omega)); (try have : w1.heap.size + 1 < w2.heap.size := (by omega)); (try have : w1.heap.size + 1 < w2.heap.size + 1 := (by omega)); (try have : w1.heap.size + 1 < w2.heap.size + 1 + 1 := (by omega)); (try have : w1.heap.size + 1 + 1 < w2.heap.size := (by omega)); (try have : w1.heap.size + 1 + 1 < w2.heap.size + 1 := (by omega)); (try have : w1.heap.size + 1 + 1 < w2.heap.size + 1 + 1 := (by omega))
  have hbx2 : Boxed w2 w.heap.size t ⟨av, ai, ag, ao, cv, ci, cg, co⟩ := by
    have h0 : Boxed (w.alloc (.cells #[.slice av t.vars.length cv, .slice ai t.init.length ci, .slice ag t.goal.length cg, .slice ao t.ops.length co] 26)) w.heap.size t ⟨av, ai, ag, ao, cv, ci, cg, co⟩ := by constructor <;> simp
    exact (h0.up hb1).up hb2
  have hbw2 : Below w.heap.size w w2 := by repeat (first | exact Below.refl _ _ | refine below_dN ?_ _ | refine Below.drew ?_ | refine Below.alloc ?_ (by first | omega | (simp; done) | (simp; omega)) _ | refine Below.setCell ?_ (by first | omega | (simp; done) | (simp; omega)) _ | refine below_step (by assumption) (by first | omega | (simp; done) | (simp; omega)) ?_)
  have z2 := hbw2.size
  clear hc1 hc2 hf1 hf2 hlt1 hlt2 hle1 hle2 hz1 hz2 hb1 hb2 k0 k1
  obtain ⟨z0, y0, y1, y2, y3⟩ := id hbx2
  dsimp only at y0 y1 y2 y3
  go_wp2_with fail
  refine (K2.out _ hbw2).mono ?_
  rintro e w3 ⟨⟨G, q, rfl, hF⟩, hb3⟩
  have hbw3 := hbw2.trans (hb3.mono z2)
  have hbx3 := hbx2.up hb3
  have z3 := hbw3.size
  clear z0 y0 y1 y2 y3 hbx2 hb3
  obtain ⟨z0, y0, y1, y2, y3⟩ := id hbx3
  dsimp only at y0 y1 y2 y3
  go_wp2_with fail
  refine (K4.out q G _ hF (hs.up hbw3)).mono ?_
  rintro e w4 ⟨⟨v4, rfl, hv4⟩, hb4⟩
  have hbw4 := hbw3.trans (hb4.mono z3)
  have hbx4 := hbx3.up hb4
  have z4 := hbw4.size
  clear z0 y0 y1 y2 y3 hbx3 hb4
  obtain ⟨z0, y0, y1, y2, y3⟩ := id hbx4
  dsimp only at y0 y1 y2 y3
  go_wp2_with fail
  refine (K3.out _ hbw4).mono ?_
  rintro e w5 ⟨⟨v5, rfl, hv5⟩, hb5⟩
  have hbw5 := hbw4.trans (hb5.mono z4)
  have z5 := hbw5.size
  obtain ⟨A4, c4, rfl, _, hf4⟩ := hv4
  obtain ⟨A5, c5, rfl, _, hf5⟩ := hv5
  have H4 := Lib.hid (hf4.up hb5)
  have H5 := Lib.hid hf5
  obtain ⟨L, hL⟩ : ∃ L, cuL t s = L := ⟨_, rfl⟩
  rw [hL] at H4 H5
  rw [hL]
  have l5 := H5.out.len
  clear hf4 hf5 hb5 z0 y0 y1 y2 y3 hbx4 hL
  go_wp2_with fail
  refine (num_any (lmC t s) _).mono ?_
  rintro e w7 ⟨rfl, rfl⟩
  go_wp2
  go_loopw [56] (fun i wr => ∃ (k : Nat), k ≤ L.length ∧ i = .int .i64 k ∧ Below w5.heap.size w5 wr) (fun i _ => L.length - (intOf i).toNat)
  case atStart => exact ⟨0, by omega, rfl, Below.refl _ _⟩
  case round =>
    obtain ⟨k, hk, rfl, hbel⟩ := hrel
    have hbz := hbel.size
    by_cases hlt : k < L.length
    · obtain ⟨b1, o1, S1, c1, e1, hb1, d1, hI1, d2⟩ := H4.out.at2 hbel hlt
      obtain ⟨b2, o2, S2, c2, e2, hb2, d3, hI2, d4⟩ := H5.out.at2 hbel hlt
      subst e1 e2
      have g1 : b1 < wr.heap.size := by omega
      have g2 : b2 < wr.heap.size := by omega
      have k0 : (0 : Int) ≤ (k : Int) := by omega
      have k1 : (k : Int) < (L.length : Int) := by omega
      have KI := Lib.hid (fun wx (hb : Below wr.heap.size wr wx) => bints_any (cut L k).ops (cut L k).ops S1 S2 c1 c2 wx ((hI1.up hbel).up hb) ((hI2.up hbel).up hb))
      simp only [decide_true] at KI
      clear hI1 hI2
      go_wp2_with fail
      refine wp_region_aft (by kernel_rfl) (by kernel_rfl) (by (try simp); exact rfl) ?_; intro haft; (repeat (go_big_quiet_step ((go_at_call 21; with_reducible exact aft_of (KI.out _ (Aft.below _)))))); refine wpQuiet_nil ?_; intro w8 hwx; have hb8 := aft_below hwx; clear hwx; obtain ⟨hc8, hf8, hz8, hlt8, hle8⟩ := cellsIf hb8 (by (try simp); exact rfl); (try have : w.heap.size < w8.heap.size := (by omega)); (try have : w.heap.size < w8.heap.size + 1 := (by omega)); (try have : w.heap.size < w8.heap.size + 1 + 1 := (by omega)); (try have : w.heap.size + 1 < w8.heap.size := (by omega)); (try have : w.heap.size + 1 < w8.heap.size + 1 := (by omega)); (try have : w.heap.size + 1 < w8.heap.size + 1 + 1 := (by omega)); (try have : w.heap.size + 1 + 1 < w8.heap.size := (by omega)); (try have : w.heap.size + 1 + 1 < w8.heap.size + 1 := (by omega)); (try have : w.heap.size + 1 + 1 < w8.heap.size + 1 + 1 := (by omega)); (try have : w1.heap.size < w8.heap.size := (by omega)); (try have : w1.heap.size < w8.heap.size + 1 := (by omega)); (try have : w1.heap.size < w8.heap.size + 1 + 1 := (by omega)); (try have : w1.heap.size + 1 < w8.heap.size := (by omega)); (try have : w1.heap.size + 1 < w8.heap.size + 1 := (by omega)); (try have : w1.heap.size + 1 < w8.heap.size + 1 + 1 := (by omega)); (try have : w1.heap.size + 1 + 1 < w8.heap.size := (by omega)); (try have : w1.heap.size + 1 + 1 < w8.heap.size + 1 := (by omega)); (try have : w1.heap.size + 1 + 1 < w8.heap.size + 1 + 1 := (by omega)); (try have : w2.heap.size < w8.heap.size := (by omega)); (try have : w2.heap.size < w8.heap.size + 1 := (by omega)); (try have : w2.heap.size < w8.heap.size + 1 + 1 := (by omega)); (try have : w2.heap.size + 1 < w8.heap.size := (by omega)); (try have : w2.heap.size + 1 < w8.heap.size + 1 := (by omega)); (try have : w2.heap.size + 1 < w8.heap.size + 1 + 1 := (by omega)); (try have : w2.heap.size + 1 + 1 < w8.heap.size := (by omega)); (try have : w2.heap.size + 1 + 1 < w8.heap.size + 1 := (by omega)); (try have : w2.heap.size + 1 + 1 < w8.heap.size + 1 + 1 := (by omega)); (try have : w3.heap.size < w8.heap.size := (by omega)); (try have : w3.heap.size < w8.heap.size + 1 := (by omega)); (try have : w3.heap.size < w8.heap.size + 1 + 1 := (by omega)); (try have : w3.heap.size + 1 < w8.heap.size := (by omega)); (try have : w3.heap.size + 1 < w8.heap.size + 1 := (by omega)); (try have : w3.heap.size + 1 < w8.heap.size + 1 + 1 := (by omega)); (try have : w3.heap.size + 1 + 1 < w8.heap.size := (by omega)); (try have : w3.heap.size + 1 + 1 < w8.heap.size + 1 := (by omega)); (try have : w3.heap.size + 1 + 1 < w8.heap.size + 1 + 1 := (by omega)); (try have : w4.heap.size < w8.heap.size := (by omega)); (try have : w4.heap.size < w8.heap.size + 1 := (by omega)); (try have : w4.heap.size < w8.heap.size + 1 + 1 := (by omega)); (try have : w4.heap.size + 1 < w8.heap.size := (by omega)); (try have : w4.heap.size + 1 < w8.heap.size + 1 := (by omega)); (try have : w4.heap.size + 1 < w8.heap.size + 1 + 1 := (by omega)); (try have : w4.heap.size + 1 + 1 < w8.heap.size := (by omega)); (try have : w4.heap.size + 1 + 1 < w8.heap.size + 1 := (by omega)); (try have : w4.heap.size + 1 + 1 < w8.heap.size + 1 + 1 := (by omega)); (try have : w5.heap.size < w8.heap.size := (by omega)); (try have : w5.heap.size < w8.heap.size + 1 := (by omega)); (try have : w5.heap.size < w8.heap.size + 1 + 1 := (by omega)); (try have : w5.heap.size + 1 < w8.heap.size := (by omega)); (try have : w5.heap.size + 1 < w8.heap.size + 1 := (by omega)); (try have : w5.heap.size + 1 < w8.heap.size + 1 + 1 := (by omega)); (try have : w5.heap.size + 1 + 1 < w8.heap.size := (by omega)); (try have : w5.heap.size + 1 + 1 < w8.heap.size + 1 := (by omega)); (try have : w5.heap.size + 1 + 1 < w8.heap.size + 1 + 1 := (by omega)); (try have : w6.heap.size < w8.heap.size := (by omega)); (try have : w6.heap.size < w8.heap.size + 1 := (by omega)); (try have : w6.heap.size < w8.heap.size + 1 + 1 := (by omega)); (try have : w6.heap.size + 1 < w8.heap.size := (by omega)); (try have : w6.heap.size + 1 < w8.heap.size + 1 := (by omega)); (try have : w6.heap.size + 1 < w8.heap.size + 1 + 1 := (by omega)); (try have : w6.heap.size + 1 + 1 < w8.heap.size := (by omega)); (try have : w6.heap.size + 1 + 1 < w8.heap.size + 1 := (by omega)); (try have : w6.heap.size + 1 + 1 < w8.heap.size + 1 + 1 := (by omega)); (try have : w7.heap.size < w8.heap.size := (by omega)); (try have : w7.heap.size < w8.heap.size + 1 := (by omega)); (try have : w7.heap.size < w8.heap.size + 1 + 1 := (by omega)); (try have : w7.heap.size + 1 < w8.heap.size := (by omega)); (try have : w7.heap.size + 1 < w8.heap.size + 1 := (by omega)); (try have : w7.heap.size + 1 < w8.heap.size + 1 + 1 := (by omega)); (try have : w7.heap.size + 1 + 1 < w8.heap.size := (by omega)); (try have : w7.heap.size + 1 + 1 < w8.heap.size + 1 := (by omega)); (try have : w7.heap.size + 1 + 1 < w8.heap.size + 1 + 1 := (by omega)); clear haft
      go_wp2
      go_roundw
      case rel => exact ⟨k + 1, by omega, by go_num, hbel.trans (hb8.mono hbz)⟩
      case measure => simp [intOf]; omega
    · go_wp2
      go_ret
      exact ⟨rfl, hbw5.trans (hbel.mono z5)⟩

end Go.Proofs.Ythhfckjddknmeaa

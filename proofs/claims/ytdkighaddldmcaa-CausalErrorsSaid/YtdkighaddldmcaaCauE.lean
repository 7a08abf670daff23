/- The law CausalErrors. -/
import Derived.Test.YtdkighaddldmcaaConA
import Derived.Test.YtdkighaddldmcaaResB
import Derived.Test.YtdkighaddldmcaaCauW
namespace Go.Proofs.Ytdkighaddldmcaa
set_option linter.unusedSimpArgs false
set_option linter.unusedVariables false
open Go Go.RowKit
set_option linter.unusedVariables false

set_option maxRecDepth 100000 in
set_option maxHeartbeats 2000000 in
theorem restrict_no (t : Tsk) (p : Lies) (w : World) (ht : TaskAt w w.heap.size t p) (e0 : chkC t ≠ 0) :
    Calls Try.prog 16 #[TaskV t p] w fun e w' => e = .returned (.tuple #[.agg #[.slice none 0 0, .slice none 0 0, .slice none 0 0, .slice none 0 0], .slice none 0 0, .iface 72 (.int .i64 (chkC t))]) ∧ Below w.heap.size w w' := by
  have k1 := fun w1 (hb : Below w.heap.size w w1) => relevant_no t p w1 (ht.up hb) e0
  obtain ⟨av, ai, ag, ao, cv, ci, cg, co⟩ := p
  unfold TaskV at *
  dsimp only at *
  clear e0
  go_enter Try.func16, Try.ntmps16
  go_wp2_with fail; refine (k1 _ (by repeat (first | exact Below.refl _ _ | refine below_dN ?_ _ | refine Below.drew ?_ | refine Below.alloc ?_ (by first | omega | (simp; done) | (simp; omega)) _ | refine Below.setCell ?_ (by first | omega | (simp; done) | (simp; omega)) _ | refine below_step (by assumption) (by first | omega | (simp; done) | (simp; omega)) ?_))).mono ?_; rintro e w1 ⟨rfl, hb1⟩; obtain ⟨hc1, hf1, hz1, hlt1, hle1⟩ := cellsIf hb1 (by (try simp); exact rfl); (try have : w.heap.size < w1.heap.size := (by omega)); (try have : w.heap.size < w1.heap.size + 1 := (by omega)); (try have : w.heap.size < w1.heap.size + 1 + 1 := (by omega)); (try have : w.heap.size + 1 < w1.heap.size := (by omega)); (try have : w.heap.size + 1 < w1.heap.size + 1 := (by omega)); (try have : w.heap.size + 1 < w1.heap.size + 1 + 1 := (by omega)); (try have : w.heap.size + 1 + 1 < w1.heap.size := (by omega)); (try have : w.heap.size + 1 + 1 < w1.heap.size + 1 := (by omega)); (try have : w.heap.size + 1 + 1 < w1.heap.size + 1 + 1 := (by omega))
  have hr1 : Box4 w1 (w.heap.size + 1) (.slice none 0 0) (.slice none 0 0) (.slice none 0 0) (.slice none 0 0) := by
    have := Box4.up (Box4.new (w.alloc (.cells #[.slice av t.vars.length cv, .slice ai t.init.length ci, .slice ag t.goal.length cg, .slice ao t.ops.length co] 26)) 26 (.slice none 0 0) (.slice none 0 0) (.slice none 0 0) (.slice none 0 0)) hb1
    simpa using this
  have hbw1 : Below w.heap.size w w1 := by repeat (first | exact Below.refl _ _ | refine below_dN ?_ _ | refine Below.drew ?_ | refine Below.alloc ?_ (by first | omega | (simp; done) | (simp; omega)) _ | refine Below.setCell ?_ (by first | omega | (simp; done) | (simp; omega)) _ | refine below_step (by assumption) (by first | omega | (simp; done) | (simp; omega)) ?_)
  clear hc1 hf1 hlt1 hle1 hz1 hb1
  obtain ⟨r0, r1, r2, r3, r4, r5⟩ := id hr1
  go_wp2
  obtain ⟨n0, n1, n2, n3, n4, n5⟩ := (((hr1.set0 (.slice none 0 0)).set1 (.slice none 0 0)).set2 (.slice none 0 0)).set3 (.slice none 0 0)
  obtain ⟨wf, hwf⟩ : ∃ wf : World, (((w1.setCell ⟨w.heap.size + 1, 0, none⟩ (.slice none 0 0)).setCell ⟨w.heap.size + 1, 1, none⟩ (.slice none 0 0)).setCell ⟨w.heap.size + 1, 2, none⟩ (.slice none 0 0)).setCell ⟨w.heap.size + 1, 3, none⟩ (.slice none 0 0) = wf := ⟨_, rfl⟩
  have hbf : Below w.heap.size w wf := by rw [← hwf]; repeat (first | exact Below.refl _ _ | refine below_dN ?_ _ | refine Below.drew ?_ | refine Below.alloc ?_ (by first | omega | (simp; done) | (simp; omega)) _ | refine Below.setCell ?_ (by first | omega | (simp; done) | (simp; omega)) _ | refine below_step (by assumption) (by first | omega | (simp; done) | (simp; omega)) ?_)
  rw [hwf] at n1 n2 n3 n4 ⊢
  clear hwf n0 n5 r0 r1 r2 r3 r4 r5
  refine bodyPost_ret (v := .tuple #[.agg #[.slice none 0 0, .slice none 0 0, .slice none 0 0, .slice none 0 0], .slice none 0 0, .iface 72 (.int .i64 (chkC t))]) (by simp [results, Try.results16, go_sem, ↓IntWalk.iteOmega, *]) rfl ⟨rfl, hbf⟩

set_option maxRecDepth 100000 in
set_option maxHeartbeats 16000000 in
theorem causalErrors_any (t : Tsk) (p : Lies) (P : List Int) (A : Option Addr) (c : Nat) (w : World) (ht : TaskAt w w.heap.size t p) (hP : IntsAt w w.heap.size A P) :
    Calls Try.prog 8 #[TaskV t p, .slice A P.length c] w fun e w' => e = .returned (.bool true) ∧ Below w.heap.size w w' := by
  have k0 := fun w1 => awake39_any w1
  have kg := fun w1 (hb : Below w.heap.size w w1) => good_any t p w1 (ht.up hb)
  have kc := fun w1 (hb : Below w.heap.size w w1) => tcheck_any t p w1 (ht.up hb)
  have ka := fun w1 (hb : Below w.heap.size w w1) => arcs_any t p w1 (ht.up hb)
  have kr0 := fun w1 h (hb : Below w.heap.size w w1) => relevant_no t p w1 (ht.up hb) h
  have kr1 := fun w1 h (hb : Below w.heap.size w w1) => relevant_any t p w1 (ht.up hb) h
  have kt0 := fun w1 h (hb : Below w.heap.size w w1) => restrict_no t p w1 (ht.up hb) h
  have kt1 := fun w1 h (hb : Below w.heap.size w w1) => restrict_any t p w1 (ht.up hb) h
  have kn0 := fun w1 h (hb : Below w.heap.size w w1) => conn_no t p P A c w1 (ht.up hb) (hP.up hb) h
  have kn1 := fun w1 h h' (hb : Below w.heap.size w w1) => conn_bad t p P A c w1 (ht.up hb) (hP.up hb) h h'
  have kn2 := fun w1 h h' (hb : Below w.heap.size w w1) => conn_good t p P A c w1 (ht.up hb) (hP.up hb) h h'
  have l4 := ht.ops.len
  have l1 := hP.len
  obtain ⟨av, ai, ag, ao, cv, ci, cg, co⟩ := p
  unfold TaskV at kg kc ka kr0 kr1 kt0 kt1 kn0 kn1 kn2 ⊢
  dsimp only at *
  have HH := Lib.hid (And.intro kg (And.intro kc (And.intro ka (And.intro kr0 (And.intro kr1 (And.intro kt0 (And.intro kt1 (And.intro kn0 (And.intro kn1 kn2)))))))))
  clear kg kc ka kr0 kr1 kt0 kt1 kn0 kn1 kn2
  by_cases v1 : (100 : Int) < (t.vars.length : Int)
  · clear HH
    go_enter Try.func8, Try.ntmps8
    go_wp2_with fail; refine (k0 _).mono ?_; rintro e w1 ⟨rfl, hb1⟩; obtain ⟨hc1, hf1, hz1, hlt1, hle1⟩ := cellsIf hb1 (by (try simp); exact rfl); (try have : w.heap.size < w1.heap.size := (by omega)); (try have : w.heap.size < w1.heap.size + 1 := (by omega)); (try have : w.heap.size < w1.heap.size + 1 + 1 := (by omega)); (try have : w.heap.size + 1 < w1.heap.size := (by omega)); (try have : w.heap.size + 1 < w1.heap.size + 1 := (by omega)); (try have : w.heap.size + 1 < w1.heap.size + 1 + 1 := (by omega)); (try have : w.heap.size + 1 + 1 < w1.heap.size := (by omega)); (try have : w.heap.size + 1 + 1 < w1.heap.size + 1 := (by omega)); (try have : w.heap.size + 1 + 1 < w1.heap.size + 1 + 1 := (by omega))
    go_wp2
    go_ret
    exact ⟨rfl, by repeat (first | exact Below.refl _ _ | refine below_dN ?_ _ | refine Below.drew ?_ | refine Below.alloc ?_ (by first | omega | (simp; done) | (simp; omega)) _ | refine Below.setCell ?_ (by first | omega | (simp; done) | (simp; omega)) _ | refine below_step (by assumption) (by first | omega | (simp; done) | (simp; omega)) ?_)⟩
  by_cases v2 : (30 : Int) < (t.ops.length : Int)
  · clear HH
    go_enter Try.func8, Try.ntmps8
    go_wp2_with fail; refine (k0 _).mono ?_; rintro e w1 ⟨rfl, hb1⟩; obtain ⟨hc1, hf1, hz1, hlt1, hle1⟩ := cellsIf hb1 (by (try simp); exact rfl); (try have : w.heap.size < w1.heap.size := (by omega)); (try have : w.heap.size < w1.heap.size + 1 := (by omega)); (try have : w.heap.size < w1.heap.size + 1 + 1 := (by omega)); (try have : w.heap.size + 1 < w1.heap.size := (by omega)); (try have : w.heap.size + 1 < w1.heap.size + 1 := (by omega)); (try have : w.heap.size + 1 < w1.heap.size + 1 + 1 := (by omega)); (try have : w.heap.size + 1 + 1 < w1.heap.size := (by omega)); (try have : w.heap.size + 1 + 1 < w1.heap.size + 1 := (by omega)); (try have : w.heap.size + 1 + 1 < w1.heap.size + 1 + 1 := (by omega))
    go_wp2
    go_ret
    exact ⟨rfl, by repeat (first | exact Below.refl _ _ | refine below_dN ?_ _ | refine Below.drew ?_ | refine Below.alloc ?_ (by first | omega | (simp; done) | (simp; omega)) _ | refine Below.setCell ?_ (by first | omega | (simp; done) | (simp; omega)) _ | refine below_step (by assumption) (by first | omega | (simp; done) | (simp; omega)) ?_)⟩
  by_cases v3 : (100 : Int) < (P.length : Int)
  · clear HH
    go_enter Try.func8, Try.ntmps8
    go_wp2_with fail; refine (k0 _).mono ?_; rintro e w1 ⟨rfl, hb1⟩; obtain ⟨hc1, hf1, hz1, hlt1, hle1⟩ := cellsIf hb1 (by (try simp); exact rfl); (try have : w.heap.size < w1.heap.size := (by omega)); (try have : w.heap.size < w1.heap.size + 1 := (by omega)); (try have : w.heap.size < w1.heap.size + 1 + 1 := (by omega)); (try have : w.heap.size + 1 < w1.heap.size := (by omega)); (try have : w.heap.size + 1 < w1.heap.size + 1 := (by omega)); (try have : w.heap.size + 1 < w1.heap.size + 1 + 1 := (by omega)); (try have : w.heap.size + 1 + 1 < w1.heap.size := (by omega)); (try have : w.heap.size + 1 + 1 < w1.heap.size + 1 := (by omega)); (try have : w.heap.size + 1 + 1 < w1.heap.size + 1 + 1 := (by omega))
    go_wp2
    go_ret
    exact ⟨rfl, by repeat (first | exact Below.refl _ _ | refine below_dN ?_ _ | refine Below.drew ?_ | refine Below.alloc ?_ (by first | omega | (simp; done) | (simp; omega)) _ | refine Below.setCell ?_ (by first | omega | (simp; done) | (simp; omega)) _ | refine below_step (by assumption) (by first | omega | (simp; done) | (simp; omega)) ?_)⟩
  go_enter Try.func8, Try.ntmps8
  go_wp2_with fail; refine (k0 _).mono ?_; rintro e w1 ⟨rfl, hb1⟩; obtain ⟨hc1, hf1, hz1, hlt1, hle1⟩ := cellsIf hb1 (by (try simp); exact rfl); (try have : w.heap.size < w1.heap.size := (by omega)); (try have : w.heap.size < w1.heap.size + 1 := (by omega)); (try have : w.heap.size < w1.heap.size + 1 + 1 := (by omega)); (try have : w.heap.size + 1 < w1.heap.size := (by omega)); (try have : w.heap.size + 1 < w1.heap.size + 1 := (by omega)); (try have : w.heap.size + 1 < w1.heap.size + 1 + 1 := (by omega)); (try have : w.heap.size + 1 + 1 < w1.heap.size := (by omega)); (try have : w.heap.size + 1 + 1 < w1.heap.size + 1 := (by omega)); (try have : w.heap.size + 1 + 1 < w1.heap.size + 1 + 1 := (by omega))
  have hbx1 : Boxed w1 w.heap.size t ⟨av, ai, ag, ao, cv, ci, cg, co⟩ := Boxed.up (by constructor <;> simp) hb1
  have hbw1 : Below w.heap.size w w1 := by repeat (first | exact Below.refl _ _ | refine below_dN ?_ _ | refine Below.drew ?_ | refine Below.alloc ?_ (by first | omega | (simp; done) | (simp; omega)) _ | refine Below.setCell ?_ (by first | omega | (simp; done) | (simp; omega)) _ | refine below_step (by assumption) (by first | omega | (simp; done) | (simp; omega)) ?_)
  clear hc1 hf1 hlt1 hle1 hz1 hb1
  obtain ⟨z0, y0, y1, y2, y3⟩ := id hbx1
  dsimp only at y0 y1 y2 y3
  go_wp2
  clear z0 y0 y1 y2 y3
  go_loopw [42] (fun i wr => ∃ k : Nat, k ≤ t.ops.length ∧ i = .int .i64 k ∧ Boxed wr w.heap.size t ⟨av, ai, ag, ao, cv, ci, cg, co⟩ ∧ Below w1.heap.size w1 wr) (fun i _ => t.ops.length - (intOf i).toNat)
  case atStart => exact ⟨0, by omega, rfl, hbx1, Below.refl _ _⟩
  case round =>
  obtain ⟨k, hk, rfl, hbx2, hbel⟩ := hrel
  obtain ⟨w2, rfl⟩ : ∃ w2 : World, w2 = wr := ⟨_, rfl⟩
  have hbw2 := hbw1.trans (hbel.mono hbw1.size)
  have hz2 := hbel.size
  by_cases hlt : k < t.ops.length
  · obtain ⟨b, o, S, c', T, d, ea, hb, d0, q0, d1, d2, f2, d3, e3⟩ := ht.ops.at2 hbw2 hlt
    dsimp only at ea
    subst ea
    have g2 : b < w2.heap.size := by have := hbw2.size; omega
    have j1 := f2.len
    have j2 := e3.len
    by_cases u1 : (8 : Int) < ((opr t.ops k).effs.length : Int)
    · go_wp2
      go_ret
      exact ⟨rfl, by repeat (first | exact Below.refl _ _ | refine below_dN ?_ _ | refine Below.drew ?_ | refine Below.alloc ?_ (by first | omega | (simp; done) | (simp; omega)) _ | refine Below.setCell ?_ (by first | omega | (simp; done) | (simp; omega)) _ | refine below_step (by assumption) (by first | omega | (simp; done) | (simp; omega)) ?_)⟩
    by_cases u2 : (100 : Int) < ((opr t.ops k).pre.length : Int)
    · go_wp2
      go_ret
      exact ⟨rfl, by repeat (first | exact Below.refl _ _ | refine below_dN ?_ _ | refine Below.drew ?_ | refine Below.alloc ?_ (by first | omega | (simp; done) | (simp; omega)) _ | refine Below.setCell ?_ (by first | omega | (simp; done) | (simp; omega)) _ | refine below_step (by assumption) (by first | omega | (simp; done) | (simp; omega)) ?_)⟩
    go_wp2
    go_roundw
    case rel => exact ⟨k + 1, by omega, by go_num, hbx2.up (by repeat (first | exact Below.refl _ _ | refine below_dN ?_ _ | refine Below.drew ?_ | refine Below.alloc ?_ (by first | omega | (simp; done) | (simp; omega)) _ | refine Below.setCell ?_ (by first | omega | (simp; done) | (simp; omega)) _ | refine below_step (by assumption) (by first | omega | (simp; done) | (simp; omega)) ?_)), hbel.alloc (by omega) _⟩
    case measure => simp [intOf]; omega
  obtain rfl : k = t.ops.length := by omega
  clear hbel hz2 hbx1
  obtain ⟨kg, kc, ka, kr0, kr1, kt0, kt1, kn0, kn1, kn2⟩ := HH.out
  clear HH
  by_cases e0 : chkC t = 0
  case neg =>
    have hg : goT t = false := by cases h : goT t with | false => rfl | true => exact absurd ((goT_chk t).1 h) e0
    rw [hg] at kg
    have he : erV (chkC t) = .iface 72 (.int .i64 (chkC t)) := by unfold erV; rw [if_neg e0]
    simp only [he, if_neg e0] at kc ka
    unfold ArcRet at ka
    have KG := Lib.hid kg
    have KC := Lib.hid kc
    have KA := Lib.hid ka
    have KR := Lib.hid fun w1 => kr0 w1 e0
    have KT := Lib.hid fun w1 => kt0 w1 e0
    have KN := Lib.hid fun w1 => kn0 w1 e0
    clear kg kc ka kr0 kr1 kt0 kt1 kn0 kn1 kn2 he hg
    have n0 : ∀ w, Calls Try.prog 24 #[.nilIface] w fun e w' => e = .returned (.int .i64 0) ∧ w = w' := fun w => num_any 0 w
    have n2 : ∀ w, Calls Try.prog 24 #[.iface 72 (.int .i64 2)] w fun e w' => e = .returned (.int .i64 2) ∧ w = w' := fun w => num_any 2 w
    have nc : ∀ w, Calls Try.prog 24 #[.iface 72 (.int .i64 (chkC t))] w fun e w' => e = .returned (.int .i64 (chkC t)) ∧ w = w' := fun w => by
      have := num_any (chkC t) w; unfold erV at this; rw [if_neg e0] at this; exact this
    have ke : (chkC t == 0) = false := by simpa using e0
    obtain ⟨z0, y0, y1, y2, y3⟩ := id hbx2
    dsimp only at y0 y1 y2 y3
    go_wp2_with fail
    refine (KG.out _ hbw2).mono ?_
    rintro e w3 ⟨rfl, hb3⟩
    have hbx3 := hbx2.up hb3
    have hbw3 := hbw2.trans (hb3.mono hbw2.size)
    clear z0 y0 y1 y2 y3 hbx2 hb3
    obtain ⟨z0, y0, y1, y2, y3⟩ := id hbx3
    dsimp only at y0 y1 y2 y3
    go_wp2_with fail
    refine (KC.out _ hbw3).mono ?_
    rintro e w4 ⟨rfl, hb4⟩
    have hbx4 := hbx3.up hb4
    have hbw4 := hbw3.trans (hb4.mono hbw3.size)
    clear z0 y0 y1 y2 y3 hbx3 hb4
    go_wp2_with fail
    refine (nc _).mono ?_
    rintro e w' ⟨rfl, rfl⟩
    obtain ⟨z0, y0, y1, y2, y3⟩ := id hbx4
    dsimp only at y0 y1 y2 y3
    go_wp2_with fail
    refine (KA.out _ hbw4).mono ?_
    rintro e w5 ⟨⟨va, rfl, A5, c5, rfl, hA5⟩, hb5⟩
    have hbx5 := hbx4.up hb5
    have hbw5 := hbw4.trans (hb5.mono hbw4.size)
    clear z0 y0 y1 y2 y3 hbx4 hb5
    obtain ⟨z0, y0, y1, y2, y3⟩ := id hbx5
    dsimp only at y0 y1 y2 y3
    go_wp2_with fail
    refine (KR.out _ hbw5).mono ?_
    rintro e w6 ⟨rfl, hb6⟩
    have hbx6 := hbx5.up hb6
    have hbw6 := hbw5.trans (hb6.mono hbw5.size)
    clear z0 y0 y1 y2 y3 hbx5 hb6
    obtain ⟨z0, y0, y1, y2, y3⟩ := id hbx6
    dsimp only at y0 y1 y2 y3
    go_wp2_with fail
    refine (KT.out _ hbw6).mono ?_
    rintro e w7 ⟨rfl, hb7⟩
    have hbx7 := hbx6.up hb7
    have hbw7 := hbw6.trans (hb7.mono hbw6.size)
    clear z0 y0 y1 y2 y3 hbx6 hb7
    obtain ⟨z0, y0, y1, y2, y3⟩ := id hbx7
    dsimp only at y0 y1 y2 y3
    go_wp2_with fail
    refine (KN.out _ (by repeat (first | exact Below.refl _ _ | refine below_dN ?_ _ | refine Below.drew ?_ | refine Below.alloc ?_ (by first | omega | (simp; done) | (simp; omega)) _ | refine Below.setCell ?_ (by first | omega | (simp; done) | (simp; omega)) _ | refine below_step (by assumption) (by first | omega | (simp; done) | (simp; omega)) ?_))).mono ?_
    rintro e w8 ⟨rfl, hb8'⟩
    have hb8 : Below w7.heap.size w7 w8 := by repeat (first | exact Below.refl _ _ | refine below_dN ?_ _ | refine Below.drew ?_ | refine Below.alloc ?_ (by first | omega | (simp; done) | (simp; omega)) _ | refine Below.setCell ?_ (by first | omega | (simp; done) | (simp; omega)) _ | refine below_step (by assumption) (by first | omega | (simp; done) | (simp; omega)) ?_)
    have hbx8 := hbx7.up hb8
    have hbw8 := hbw7.trans (hb8.mono hbw7.size)
    clear z0 y0 y1 y2 y3 hbx7 hb8 hb8'
    obtain ⟨z0, y0, y1, y2, y3⟩ := id hbx8
    dsimp only at y0 y1 y2 y3
    go_wp2_with fail
    refine (nc _).mono ?_
    rintro e w' ⟨rfl, rfl⟩
    go_wp2_with fail
    refine (nc _).mono ?_
    rintro e w' ⟨rfl, rfl⟩
    go_wp2_with fail
    refine (nc _).mono ?_
    rintro e w' ⟨rfl, rfl⟩
    go_wp2
    clear z0 y0 y1 y2 y3
    go_loopw [7, 103] (fun v i wr => ∃ (k : Nat), k ≤ P.length ∧ i = .int .i64 k ∧ v = .int .i64 (chkC t) ∧ Boxed wr w.heap.size t ⟨av, ai, ag, ao, cv, ci, cg, co⟩ ∧ Below w8.heap.size w8 wr) (fun _ i _ => P.length - (intOf i).toNat)
    case atStart => exact ⟨0, by omega, rfl, rfl, hbx8, Below.refl _ _⟩
    case round =>
      obtain ⟨k, hk, rfl, rfl, hbox, hbel⟩ := hrel
      obtain ⟨z0, y0, y1, y2, y3⟩ := id hbox
      dsimp only at y0 y1 y2 y3
      by_cases hlt : k < P.length
      · obtain ⟨b, o, ea, hb, d1⟩ := hP.atI (hbw8.trans (hbel.mono hbw8.size)) hlt
        have hbz := hbel.size
        have hz8 := hbw8.size
        have g2 : b < wr.heap.size := by omega
        have x0 : (0 : Int) ≤ (k : Int) := by omega
        have x1 : (k : Int) < (P.length : Int) := by omega
        subst ea
        go_wp2
        go_roundw
        case rel => exact ⟨k + 1, by omega, by go_num, rfl, hbox, hbel⟩
        case measure => simp [intOf]; omega
      · go_wp2_with fail
        refine (nc _).mono ?_
        rintro e w' ⟨rfl, rfl⟩
        go_wp2
        go_ret
        exact ⟨rfl, hbw8.trans (hbel.mono hbw8.size)⟩

  case pos =>
  have hg : goT t = true := (goT_chk t).2 e0
  rw [hg] at kg
  simp only [e0, erV_0, if_pos] at kc ka
  unfold ArcRet at ka
  have KG := Lib.hid kg
  have KA := Lib.hid ka
  have KR := Lib.hid fun w1 => kr1 w1 e0
  have KT := Lib.hid fun w1 => kt1 w1 e0
  unfold ResRet RelRet at *
  by_cases hp : PaP t.vars.length P
  case pos =>
    have KN := Lib.hid fun w1 => kn2 w1 e0 hp
    clear kg kc ka kr0 kr1 kt0 kt1 kn0 kn1 kn2 hg e0
    have n0 : ∀ w, Calls Try.prog 24 #[.nilIface] w fun e w' => e = .returned (.int .i64 0) ∧ w = w' := fun w => num_any 0 w
    have n2 : ∀ w, Calls Try.prog 24 #[.iface 72 (.int .i64 2)] w fun e w' => e = .returned (.int .i64 2) ∧ w = w' := fun w => num_any 2 w
    obtain ⟨z0, y0, y1, y2, y3⟩ := id hbx2
    dsimp only at y0 y1 y2 y3
    go_wp2_with fail
    refine (KG.out _ hbw2).mono ?_
    rintro e w3 ⟨rfl, hb3⟩
    have hbx3 := hbx2.up hb3
    have hbw3 := hbw2.trans (hb3.mono hbw2.size)
    clear z0 y0 y1 y2 y3 hbx2 hb3
    obtain ⟨w4, rfl⟩ : ∃ w4 : World, w4 = w3 := ⟨_, rfl⟩
    have hbx4 := hbx3
    have hbw4 := hbw3
    clear hbx3
    obtain ⟨z0, y0, y1, y2, y3⟩ := id hbx4
    dsimp only at y0 y1 y2 y3
    go_wp2_with fail
    refine (KA.out _ hbw4).mono ?_
    rintro e w5 ⟨⟨va, rfl, A5, c5, rfl, hA5⟩, hb5⟩
    have hbx5 := hbx4.up hb5
    have hbw5 := hbw4.trans (hb5.mono hbw4.size)
    clear z0 y0 y1 y2 y3 hbx4 hb5
    obtain ⟨z0, y0, y1, y2, y3⟩ := id hbx5
    dsimp only at y0 y1 y2 y3
    go_wp2_with fail
    refine (KR.out _ hbw5).mono ?_
    rintro e w6 ⟨⟨g6, rfl, _, _⟩, hb6⟩
    have hbx6 := hbx5.up hb6
    have hbw6 := hbw5.trans (hb6.mono hbw5.size)
    clear z0 y0 y1 y2 y3 hbx5 hb6
    obtain ⟨z0, y0, y1, y2, y3⟩ := id hbx6
    dsimp only at y0 y1 y2 y3
    go_wp2_with fail
    refine (KT.out _ hbw6).mono ?_
    rintro e w7 ⟨⟨⟨q0, q1, q2, q3, d0, d1, d2, d3⟩, AT, ct, he, _, _, _, _⟩, hb7⟩
    have hbx7 := hbx6.up hb7
    have hbw7 := hbw6.trans (hb7.mono hbw6.size)
    clear z0 y0 y1 y2 y3 hbx6 hb7
    (try rw [if_pos rfl] at he)
    subst he
    unfold TaskV
    dsimp only
    obtain ⟨z0, y0, y1, y2, y3⟩ := id hbx7
    dsimp only at y0 y1 y2 y3
    go_wp2_with fail
    refine (KN.out _ (by repeat (first | exact Below.refl _ _ | refine below_dN ?_ _ | refine Below.drew ?_ | refine Below.alloc ?_ (by first | omega | (simp; done) | (simp; omega)) _ | refine Below.setCell ?_ (by first | omega | (simp; done) | (simp; omega)) _ | refine below_step (by assumption) (by first | omega | (simp; done) | (simp; omega)) ?_))).mono ?_
    rintro e w8 ⟨rfl, hb8'⟩
    have hb8 : Below w7.heap.size w7 w8 := by repeat (first | exact Below.refl _ _ | refine below_dN ?_ _ | refine Below.drew ?_ | refine Below.alloc ?_ (by first | omega | (simp; done) | (simp; omega)) _ | refine Below.setCell ?_ (by first | omega | (simp; done) | (simp; omega)) _ | refine below_step (by assumption) (by first | omega | (simp; done) | (simp; omega)) ?_)
    have hbx8 := hbx7.up hb8
    have hbw8 := hbw7.trans (hb8.mono hbw7.size)
    clear z0 y0 y1 y2 y3 hbx7 hb8 hb8'
    obtain ⟨z0, y0, y1, y2, y3⟩ := id hbx8
    dsimp only at y0 y1 y2 y3
    go_wp2_with fail
    refine (n0 _).mono ?_
    rintro e w' ⟨rfl, rfl⟩
    go_wp2_with fail
    refine (n0 _).mono ?_
    rintro e w' ⟨rfl, rfl⟩
    go_wp2_with fail
    refine (n0 _).mono ?_
    rintro e w' ⟨rfl, rfl⟩
    go_wp2
    clear z0 y0 y1 y2 y3
    go_loopw [7, 103] (fun v i wr => ∃ (k : Nat), k ≤ P.length ∧ i = .int .i64 k ∧ v = .int .i64 (0) ∧ Boxed wr w.heap.size t ⟨av, ai, ag, ao, cv, ci, cg, co⟩ ∧ Below w8.heap.size w8 wr) (fun _ i _ => P.length - (intOf i).toNat)
    case atStart => exact ⟨0, by omega, rfl, rfl, hbx8, Below.refl _ _⟩
    case round =>
      obtain ⟨k, hk, rfl, rfl, hbox, hbel⟩ := hrel
      obtain ⟨z0, y0, y1, y2, y3⟩ := id hbox
      dsimp only at y0 y1 y2 y3
      by_cases hlt : k < P.length
      · obtain ⟨b, o, ea, hb, d1⟩ := hP.atI (hbw8.trans (hbel.mono hbw8.size)) hlt
        have hbz := hbel.size
        have hz8 := hbw8.size
        have g2 : b < wr.heap.size := by omega
        have x0 : (0 : Int) ≤ (k : Int) := by omega
        have x1 : (k : Int) < (P.length : Int) := by omega
        have hpk := hp k hlt
        have q0 : ¬ nth P k < 0 := by omega
        have q1 : ¬ (t.vars.length : Int) ≤ nth P k := by omega
        have e0 : decide (nth P k < 0) = false := by simpa using q0
        have e1 : decide ((t.vars.length : Int) ≤ nth P k) = false := by simpa using q1
        by_cases k0 : (0 : Int) < (k : Int)
        · have z0' : decide ((0 : Int) < (k : Int)) = true := by simpa using k0
          obtain ⟨b', o', ea', hb', d2⟩ := hP.atI (hbw8.trans (hbel.mono hbw8.size)) (k := k - 1) (by omega)
          obtain ⟨rfl, rfl⟩ : b = b' ∧ o = o' := by rw [ea] at ea'; cases ea'; exact ⟨rfl, rfl⟩
          subst ea
          have q4 : ¬ nth P k ≤ nth P (k - 1) := by have := hpk.2.2 (by omega); omega
          have e4 : decide (nth P k ≤ nth P (k - 1)) = false := by simpa using q4
          go_wp2
          go_roundw
          case rel => exact ⟨k + 1, by omega, by go_num, rfl, hbox, hbel⟩
          case measure => simp [intOf]; omega
        · subst ea
          have z0' : decide ((0 : Int) < (k : Int)) = false := by simpa using k0
          go_wp2
          go_roundw
          case rel => exact ⟨k + 1, by omega, by go_num, rfl, hbox, hbel⟩
          case measure => simp [intOf]; omega
      · go_wp2_with fail
        refine (n0 _).mono ?_
        rintro e w' ⟨rfl, rfl⟩
        go_wp2
        go_ret
        exact ⟨rfl, hbw8.trans (hbel.mono hbw8.size)⟩

  case neg =>
    have KN := Lib.hid fun w1 => kn1 w1 e0 hp
    have HNP := Lib.hid hp
    clear kg kc ka kr0 kr1 kt0 kt1 kn0 kn1 kn2 hg e0 hp
    have n0 : ∀ w, Calls Try.prog 24 #[.nilIface] w fun e w' => e = .returned (.int .i64 0) ∧ w = w' := fun w => num_any 0 w
    have n2 : ∀ w, Calls Try.prog 24 #[.iface 72 (.int .i64 2)] w fun e w' => e = .returned (.int .i64 2) ∧ w = w' := fun w => num_any 2 w
    obtain ⟨z0, y0, y1, y2, y3⟩ := id hbx2
    dsimp only at y0 y1 y2 y3
    go_wp2_with fail
    refine (KG.out _ hbw2).mono ?_
    rintro e w3 ⟨rfl, hb3⟩
    have hbx3 := hbx2.up hb3
    have hbw3 := hbw2.trans (hb3.mono hbw2.size)
    clear z0 y0 y1 y2 y3 hbx2 hb3
    obtain ⟨w4, rfl⟩ : ∃ w4 : World, w4 = w3 := ⟨_, rfl⟩
    have hbx4 := hbx3
    have hbw4 := hbw3
    clear hbx3
    obtain ⟨z0, y0, y1, y2, y3⟩ := id hbx4
    dsimp only at y0 y1 y2 y3
    go_wp2_with fail
    refine (KA.out _ hbw4).mono ?_
    rintro e w5 ⟨⟨va, rfl, A5, c5, rfl, hA5⟩, hb5⟩
    have hbx5 := hbx4.up hb5
    have hbw5 := hbw4.trans (hb5.mono hbw4.size)
    clear z0 y0 y1 y2 y3 hbx4 hb5
    obtain ⟨z0, y0, y1, y2, y3⟩ := id hbx5
    dsimp only at y0 y1 y2 y3
    go_wp2_with fail
    refine (KR.out _ hbw5).mono ?_
    rintro e w6 ⟨⟨g6, rfl, _, _⟩, hb6⟩
    have hbx6 := hbx5.up hb6
    have hbw6 := hbw5.trans (hb6.mono hbw5.size)
    clear z0 y0 y1 y2 y3 hbx5 hb6
    obtain ⟨z0, y0, y1, y2, y3⟩ := id hbx6
    dsimp only at y0 y1 y2 y3
    go_wp2_with fail
    refine (KT.out _ hbw6).mono ?_
    rintro e w7 ⟨⟨⟨q0, q1, q2, q3, d0, d1, d2, d3⟩, AT, ct, he, _, _, _, _⟩, hb7⟩
    have hbx7 := hbx6.up hb7
    have hbw7 := hbw6.trans (hb7.mono hbw6.size)
    clear z0 y0 y1 y2 y3 hbx6 hb7
    (try rw [if_pos rfl] at he)
    subst he
    unfold TaskV
    dsimp only
    obtain ⟨z0, y0, y1, y2, y3⟩ := id hbx7
    dsimp only at y0 y1 y2 y3
    go_wp2_with fail
    refine (KN.out _ (by repeat (first | exact Below.refl _ _ | refine below_dN ?_ _ | refine Below.drew ?_ | refine Below.alloc ?_ (by first | omega | (simp; done) | (simp; omega)) _ | refine Below.setCell ?_ (by first | omega | (simp; done) | (simp; omega)) _ | refine below_step (by assumption) (by first | omega | (simp; done) | (simp; omega)) ?_))).mono ?_
    rintro e w8 ⟨rfl, hb8'⟩
    have hb8 : Below w7.heap.size w7 w8 := by repeat (first | exact Below.refl _ _ | refine below_dN ?_ _ | refine Below.drew ?_ | refine Below.alloc ?_ (by first | omega | (simp; done) | (simp; omega)) _ | refine Below.setCell ?_ (by first | omega | (simp; done) | (simp; omega)) _ | refine below_step (by assumption) (by first | omega | (simp; done) | (simp; omega)) ?_)
    have hbx8 := hbx7.up hb8
    have hbw8 := hbw7.trans (hb8.mono hbw7.size)
    clear z0 y0 y1 y2 y3 hbx7 hb8 hb8'
    obtain ⟨z0, y0, y1, y2, y3⟩ := id hbx8
    dsimp only at y0 y1 y2 y3
    go_wp2_with fail
    refine (n0 _).mono ?_
    rintro e w' ⟨rfl, rfl⟩
    go_wp2_with fail
    refine (n0 _).mono ?_
    rintro e w' ⟨rfl, rfl⟩
    go_wp2_with fail
    refine (n0 _).mono ?_
    rintro e w' ⟨rfl, rfl⟩
    go_wp2
    clear z0 y0 y1 y2 y3
    go_loopw [7, 103] (fun v i wr => ∃ (k : Nat) (q : Bool), k ≤ P.length ∧ i = .int .i64 k ∧ v = .int .i64 (if q then 2 else 0) ∧ Hid (q = true ∨ ∀ j, j < k → 0 ≤ nth P j ∧ nth P j < t.vars.length ∧ (0 < j → nth P (j - 1) < nth P j)) ∧ Boxed wr w.heap.size t ⟨av, ai, ag, ao, cv, ci, cg, co⟩ ∧ Below w8.heap.size w8 wr) (fun _ i _ => P.length - (intOf i).toNat)
    case atStart => exact ⟨0, false, by omega, rfl, rfl, Lib.hid (.inr fun j hj => absurd hj (by omega)), hbx8, Below.refl _ _⟩
    case round =>
      obtain ⟨k, q, hk, rfl, rfl, hok, hbox, hbel⟩ := hrel
      obtain ⟨z0, y0, y1, y2, y3⟩ := id hbox
      dsimp only at y0 y1 y2 y3
      by_cases hlt : k < P.length
      · obtain ⟨b, o, ea, hb, d1⟩ := hP.atI (hbw8.trans (hbel.mono hbw8.size)) hlt
        have hbz := hbel.size
        have hz8 := hbw8.size
        have g2 : b < wr.heap.size := by omega
        have x0 : (0 : Int) ≤ (k : Int) := by omega
        have x1 : (k : Int) < (P.length : Int) := by omega
        cases q
        case true =>
          subst ea
          go_wp2
          go_roundw
          case rel => exact ⟨k + 1, true, by omega, by go_num, rfl, Lib.hid (.inl rfl), hbox, hbel⟩
          case measure => simp [intOf]; omega
        by_cases q0 : nth P k < 0
        · subst ea
          have e0 : decide (nth P k < 0) = true := by simpa using q0
          go_wp2
          go_roundw
          case rel => exact ⟨k + 1, true, by omega, by go_num, rfl, Lib.hid (.inl rfl), hbox, hbel⟩
          case measure => simp [intOf]; omega
        by_cases q1 : (t.vars.length : Int) ≤ nth P k
        · have e0 : decide (nth P k < 0) = false := by simpa using q0
          subst ea
          have e1 : decide ((t.vars.length : Int) ≤ nth P k) = true := by simpa using q1
          go_wp2
          go_roundw
          case rel => exact ⟨k + 1, true, by omega, by go_num, rfl, Lib.hid (.inl rfl), hbox, hbel⟩
          case measure => simp [intOf]; omega
        have e0 : decide (nth P k < 0) = false := by simpa using q0
        have e1 : decide ((t.vars.length : Int) ≤ nth P k) = false := by simpa using q1
        by_cases k0 : (0 : Int) < (k : Int)
        · have z0' : decide ((0 : Int) < (k : Int)) = true := by simpa using k0
          obtain ⟨b', o', ea', hb', d2⟩ := hP.atI (hbw8.trans (hbel.mono hbw8.size)) (k := k - 1) (by omega)
          obtain ⟨rfl, rfl⟩ : b = b' ∧ o = o' := by rw [ea] at ea'; cases ea'; exact ⟨rfl, rfl⟩
          subst ea
          by_cases q4 : nth P k ≤ nth P (k - 1)
          · have e4 : decide (nth P k ≤ nth P (k - 1)) = true := by simpa using q4
            go_wp2
            go_roundw
            case rel => exact ⟨k + 1, true, by omega, by go_num, rfl, Lib.hid (.inl rfl), hbox, hbel⟩
            case measure => simp [intOf]; omega
          have e4 : decide (nth P k ≤ nth P (k - 1)) = false := by simpa using q4
          go_wp2
          go_roundw
          case rel => exact ⟨k + 1, false, by omega, by go_num, rfl, Lib.hid (.inr fun j hj => by
            rcases Nat.lt_succ_iff_lt_or_eq.1 hj with h | rfl
            · exact (hok.out.resolve_left (by decide)) j h
            · exact ⟨by omega, by omega, fun h => by omega⟩), hbox, hbel⟩
          case measure => simp [intOf]; omega
        · subst ea
          have z0' : decide ((0 : Int) < (k : Int)) = false := by simpa using k0
          go_wp2
          go_roundw
          case rel => exact ⟨k + 1, false, by omega, by go_num, rfl, Lib.hid (.inr fun j hj => by
            rcases Nat.lt_succ_iff_lt_or_eq.1 hj with h | rfl
            · exact (hok.out.resolve_left (by decide)) j h
            · exact ⟨by omega, by omega, fun h => by omega⟩), hbox, hbel⟩
          case measure => simp [intOf]; omega
      · obtain rfl : k = P.length := by omega
        cases q
        case false => exact absurd (fun j hj => (hok.out.resolve_left (by decide)) j hj) HNP.out
        go_wp2_with fail
        refine (n2 _).mono ?_
        rintro e w' ⟨rfl, rfl⟩
        go_wp2
        go_ret
        exact ⟨rfl, hbw8.trans (hbel.mono hbw8.size)⟩


end Go.Proofs.Ytdkighaddldmcaa

/- landmark: Achievers; the reference's Achievers. -/
import Derived.Test.YthhfckjddknmeaaLmCa
import Derived.Test.YthhfckjddknmeaaLmR
namespace Go.Proofs.Ythhfckjddknmeaa
set_option linter.unusedSimpArgs false
set_option linter.unusedVariables false
open Go Go.RowKit
set_option linter.unusedVariables false

/-- Achievers: the error, the list. -/
def acC (t : Tsk) (s : List Int) (x y : Int) : Int := if stB t.vars s then (if faB t.vars [(x, y)] then 0 else 1) else 2
noncomputable def acL (t : Tsk) (s : List Int) (x y : Int) : List Int := if acC t s x y = 0 then ach t s (x, y) else []
def AchRet (t : Tsk) (s : List Int) (x y : Int) (e : Ending) (w' : World) : Prop := ∃ v, e = .returned (.tuple #[v, erV (acC t s x y)]) ∧ GotInts w' v (acL t s x y)
def RAchRet (t : Tsk) (s : List Int) (x y : Int) (lo : Nat) (e : Ending) (w' : World) : Prop := ∃ v, e = .returned (.tuple #[v, .int .i64 (acC t s x y)]) ∧ GotI2 w' lo v (acL t s x y)

set_option maxRecDepth 100000 in
set_option maxHeartbeats 8000000 in
theorem lAchs_any (t : Tsk) (q : LiesF) (G : Nat) (s : List Int) (AS : Option Addr) (cs : Nat) (x y : Int) (w : World) (hF : FindAt w G t q) (hs : IntsAt w w.heap.size AS s) (hr : Right t) :
    Calls Try.prog 19 #[.pointer (some ⟨G, 0, none⟩), .slice AS s.length cs, .agg #[.int .i64 x, .int .i64 y]] w fun e w' => AchRet t s x y e w' ∧ Below w.heap.size w w' := by
  have K1 := Lib.hid (fun wx (hb : Below w.heap.size w wx) => proper_any t.vars s q.av AS q.cv cs wx ((hF.up hb).vars) (hs.up hb))
  have K2 := Lib.hid (fun wx (hb : Below w.heap.size w wx) => lis_any t q G x y wx (hF.up hb))
  have K3 := Lib.hid (fun wx (hb : Below w.heap.size w wx) hst => achs_any t q G s AS cs (x, y) wx (hF.up hb) (hs.up hb) hst hr)
  obtain ⟨av, ag, ac, au, cv, cg, cc, cu⟩ := q
  obtain ⟨q0, q1, q2, q3, q4, q5, q6, q7, q8⟩ := hF
  dsimp only at *
  clear q2 q3 q4 q5 q6 q7 q8 hr
  cases e1 : stB t.vars s
  · have Hc : Hid (acC t s x y = 2) := Lib.hid (by unfold acC; rw [e1]; rfl)
    rw [e1] at K1
    clear K2 K3
    go_enter Try.func19, Try.ntmps19
    go_wp2_with fail; refine (K1.out _ (by repeat (first | exact Below.refl _ _ | refine below_dN ?_ _ | refine Below.drew ?_ | refine Below.alloc ?_ (by first | omega | (simp; done) | (simp; omega)) _ | refine Below.setCell ?_ (by first | omega | (simp; done) | (simp; omega)) _ | refine below_step (by assumption) (by first | omega | (simp; done) | (simp; omega)) ?_))).mono ?_; rintro e w1 ⟨rfl, hb1⟩; obtain ⟨hc1, hf1, hz1, hlt1, hle1⟩ := cellsIf hb1 (by (try simp); exact rfl); (try have : w.heap.size < w1.heap.size := (by omega)); (try have : w.heap.size < w1.heap.size + 1 := (by omega)); (try have : w.heap.size < w1.heap.size + 1 + 1 := (by omega)); (try have : w.heap.size + 1 < w1.heap.size := (by omega)); (try have : w.heap.size + 1 < w1.heap.size + 1 := (by omega)); (try have : w.heap.size + 1 < w1.heap.size + 1 + 1 := (by omega)); (try have : w.heap.size + 1 + 1 < w1.heap.size := (by omega)); (try have : w.heap.size + 1 + 1 < w1.heap.size + 1 := (by omega)); (try have : w.heap.size + 1 + 1 < w1.heap.size + 1 + 1 := (by omega))
    go_wp2
    refine bodyPost_ret (v := .tuple #[.slice none 0 0, .iface 64 (.int .i64 2)]) (by simp [results, Try.results19, go_sem]) rfl ⟨⟨.slice none 0 0, by rw [Hc.out]; rfl, by unfold acL; rw [Hc.out]; exact got_nil _⟩, by repeat (first | exact Below.refl _ _ | refine below_dN ?_ _ | refine Below.drew ?_ | refine Below.alloc ?_ (by first | omega | (simp; done) | (simp; omega)) _ | refine Below.setCell ?_ (by first | omega | (simp; done) | (simp; omega)) _ | refine below_step (by assumption) (by first | omega | (simp; done) | (simp; omega)) ?_)⟩
  have Hst := Lib.hid e1
  rw [e1] at K1
  cases e2 : faB t.vars [(x, y)]
  · have Hc : Hid (acC t s x y = 1) := Lib.hid (by unfold acC; rw [e1, e2]; rfl)
    rw [e2] at K2
    clear K3 e1 e2
    go_enter Try.func19, Try.ntmps19
    go_wp2_with fail; refine (K1.out _ (by repeat (first | exact Below.refl _ _ | refine below_dN ?_ _ | refine Below.drew ?_ | refine Below.alloc ?_ (by first | omega | (simp; done) | (simp; omega)) _ | refine Below.setCell ?_ (by first | omega | (simp; done) | (simp; omega)) _ | refine below_step (by assumption) (by first | omega | (simp; done) | (simp; omega)) ?_))).mono ?_; rintro e w1 ⟨rfl, hb1⟩; obtain ⟨hc1, hf1, hz1, hlt1, hle1⟩ := cellsIf hb1 (by (try simp); exact rfl); (try have : w.heap.size < w1.heap.size := (by omega)); (try have : w.heap.size < w1.heap.size + 1 := (by omega)); (try have : w.heap.size < w1.heap.size + 1 + 1 := (by omega)); (try have : w.heap.size + 1 < w1.heap.size := (by omega)); (try have : w.heap.size + 1 < w1.heap.size + 1 := (by omega)); (try have : w.heap.size + 1 < w1.heap.size + 1 + 1 := (by omega)); (try have : w.heap.size + 1 + 1 < w1.heap.size := (by omega)); (try have : w.heap.size + 1 + 1 < w1.heap.size + 1 := (by omega)); (try have : w.heap.size + 1 + 1 < w1.heap.size + 1 + 1 := (by omega))
    go_wp2_with fail; refine (K2.out _ (by repeat (first | exact Below.refl _ _ | refine below_dN ?_ _ | refine Below.drew ?_ | refine Below.alloc ?_ (by first | omega | (simp; done) | (simp; omega)) _ | refine Below.setCell ?_ (by first | omega | (simp; done) | (simp; omega)) _ | refine below_step (by assumption) (by first | omega | (simp; done) | (simp; omega)) ?_))).mono ?_; rintro e w2 ⟨rfl, hb2⟩; obtain ⟨hc2, hf2, hz2, hlt2, hle2⟩ := cellsIf hb2 (by (try simp); exact rfl); (try have : w.heap.size < w2.heap.size := (by omega)); (try have : w.heap.size < w2.heap.size + 1 := (by omega)); (try have : w.heap.size < w2.heap.size + 1 + 1 := (by omega)); (try have : w.heap.size + 1 < w2.heap.size := (by omega)); (try have : w.heap.size + 1 < w2.heap.size + 1 := (by omega)); (try have : w.heap.size + 1 < w2.heap.size + 1 + 1 := (by omega)); (try have : w.heap.size + 1 + 1 < w2.heap.size := (by omega)); (try have : w.heap.size + 1 + 1 < w2.heap.size + 1 := (by omega)); (try have : w.heap.size + 1 + 1 < w2.heap.size + 1 + 1 := (by omega)); (try have : w1.heap.size < w2.heap.size := (by omega)); (try have : w1.heap.size < w2.heap.size + 1 := (by omega)); (try have : w1.heap.size < w2.heap.size + 1 + 1 := (by omega)); (try have : w1.heap.size + 1 < w2.heap.size := (by omega)); (try have : w1.heap.size + 1 < w2.heap.size + 1 := (by omega)); (try have : w1.heap.size + 1 < w2.heap.size + 1 + 1 := (by omega)); (try have : w1.heap.size + 1 + 1 < w2.heap.size := (by omega)); (try have : w1.heap.size + 1 + 1 < w2.heap.size + 1 := (by omega)); (try have : w1.heap.size + 1 + 1 < w2.heap.size + 1 + 1 := (by omega))
    go_wp2
    refine bodyPost_ret (v := .tuple #[.slice none 0 0, .iface 64 (.int .i64 1)]) (by simp [results, Try.results19, go_sem]) rfl ⟨⟨.slice none 0 0, by rw [Hc.out]; rfl, by unfold acL; rw [Hc.out]; exact got_nil _⟩, by repeat (first | exact Below.refl _ _ | refine below_dN ?_ _ | refine Below.drew ?_ | refine Below.alloc ?_ (by first | omega | (simp; done) | (simp; omega)) _ | refine Below.setCell ?_ (by first | omega | (simp; done) | (simp; omega)) _ | refine below_step (by assumption) (by first | omega | (simp; done) | (simp; omega)) ?_)⟩
  have Hc : Hid (acC t s x y = 0) := Lib.hid (by unfold acC; rw [e1, e2]; rfl)
  rw [e2] at K2
  clear e1 e2
  go_enter Try.func19, Try.ntmps19
  go_wp2_with fail; refine (K1.out _ (by repeat (first | exact Below.refl _ _ | refine below_dN ?_ _ | refine Below.drew ?_ | refine Below.alloc ?_ (by first | omega | (simp; done) | (simp; omega)) _ | refine Below.setCell ?_ (by first | omega | (simp; done) | (simp; omega)) _ | refine below_step (by assumption) (by first | omega | (simp; done) | (simp; omega)) ?_))).mono ?_; rintro e w1 ⟨rfl, hb1⟩; obtain ⟨hc1, hf1, hz1, hlt1, hle1⟩ := cellsIf hb1 (by (try simp); exact rfl); (try have : w.heap.size < w1.heap.size := (by omega)); (try have : w.heap.size < w1.heap.size + 1 := (by omega)); (try have : w.heap.size < w1.heap.size + 1 + 1 := (by omega)); (try have : w.heap.size + 1 < w1.heap.size := (by omega)); (try have : w.heap.size + 1 < w1.heap.size + 1 := (by omega)); (try have : w.heap.size + 1 < w1.heap.size + 1 + 1 := (by omega)); (try have : w.heap.size + 1 + 1 < w1.heap.size := (by omega)); (try have : w.heap.size + 1 + 1 < w1.heap.size + 1 := (by omega)); (try have : w.heap.size + 1 + 1 < w1.heap.size + 1 + 1 := (by omega))
  go_wp2_with fail; refine (K2.out _ (by repeat (first | exact Below.refl _ _ | refine below_dN ?_ _ | refine Below.drew ?_ | refine Below.alloc ?_ (by first | omega | (simp; done) | (simp; omega)) _ | refine Below.setCell ?_ (by first | omega | (simp; done) | (simp; omega)) _ | refine below_step (by assumption) (by first | omega | (simp; done) | (simp; omega)) ?_))).mono ?_; rintro e w2 ⟨rfl, hb2⟩; obtain ⟨hc2, hf2, hz2, hlt2, hle2⟩ := cellsIf hb2 (by (try simp); exact rfl); (try have : w.heap.size < w2.heap.size := (by omega)); (try have : w.heap.size < w2.heap.size + 1 := (by omega)); (try have : w.heap.size < w2.heap.size + 1 + 1 := (by omega)); (try have : w.heap.size + 1 < w2.heap.size := (by omega)); (try have : w.heap.size + 1 < w2.heap.size + 1 := (by omega)); (try have : w.heap.size + 1 < w2.heap.size + 1 + 1 := (by omega)); (try have : w.heap.size + 1 + 1 < w2.heap.size := (by omega)); (try have : w.heap.size + 1 + 1 < w2.heap.size + 1 := (by omega)); (try have : w.heap.size + 1 + 1 < w2.heap.size + 1 + 1 := (by omega)); (try have : w1.heap.size < w2.heap.size := (by omega)); (try have : w1.heap.size < w2.heap.size + 1 := (by omega)); (try have : w1.heap.size < w2.heap.size + 1 + 1 := (by omega)); (try have : w1.heap.size + 1 < w2.heap.size := (by omega)); (try have : w1.heap.size + 1 < w2.heap.size + 1 := (by omega)); (try have : w1.heap.size + 1 < w2.heap.size + 1 + 1 := (by omega)); (try have : w1.heap.size + 1 + 1 < w2.heap.size := (by omega)); (try have : w1.heap.size + 1 + 1 < w2.heap.size + 1 := (by omega)); (try have : w1.heap.size + 1 + 1 < w2.heap.size + 1 + 1 := (by omega))
  have hbw2 : Below w.heap.size w w2 := by repeat (first | exact Below.refl _ _ | refine below_dN ?_ _ | refine Below.drew ?_ | refine Below.alloc ?_ (by first | omega | (simp; done) | (simp; omega)) _ | refine Below.setCell ?_ (by first | omega | (simp; done) | (simp; omega)) _ | refine below_step (by assumption) (by first | omega | (simp; done) | (simp; omega)) ?_)
  have z2 := hbw2.size
  go_wp2_with fail
  refine (K3.out _ hbw2 Hst.out).mono ?_
  rintro e w3 ⟨⟨v, rfl, hg⟩, hb3⟩
  obtain ⟨A, c, rfl, hA, hI⟩ := hg.got
  have Hg : Hid (GotInts w3 (.slice A (ach t s (x, y)).length c) (acL t s x y)) := Lib.hid (by unfold acL; rw [Hc.out, if_pos rfl]; exact ⟨A, c, rfl, hA, hI⟩)
  clear hA hI
  go_wp2
  refine bodyPost_ret (v := .tuple #[.slice A (ach t s (x, y)).length c, .nilIface]) (by simp [results, Try.results19, go_sem]) rfl ⟨⟨_, by rw [Hc.out, erV_0], Hg.out⟩, hbw2.trans (hb3.mono z2)⟩

set_option maxRecDepth 100000 in
set_option maxHeartbeats 16000000 in
theorem rachs_any (t : Tsk) (p : Lies) (s : List Int) (AS : Option Addr) (cs : Nat) (a1 a2 : Int) (w : World) (ht : TaskAt w w.heap.size t p) (hs : IntsAt w w.heap.size AS s) (hr : Right t) :
    Calls Try.prog 20 #[TaskV t p, .slice AS s.length cs, .agg #[.int .i64 a1, .int .i64 a2]] w fun e w' => RAchRet t s a1 a2 w.heap.size e w' ∧ Below w.heap.size w w' := by
  have K1 := Lib.hid (fun wx (hb : Below w.heap.size w wx) => state_any t.vars s p.av AS p.cv cs wx (ht.vars.up hb) (hs.up hb))
  have K2 := Lib.hid (fun H wx (hb : Below w.heap.size w wx) (h : FactsAt wx wx.heap.size (some ⟨H, 0, none⟩) [(a1, a2)]) => bproper_any t.vars [(a1, a2)] p.av (some ⟨H, 0, none⟩) p.cv 1 wx (ht.vars.up hb) h)
  have K3 := Lib.hid (fun wx (hb : Below w.heap.size w wx) hst => rreach_any t p s AS cs a1 a2 wx (ht.up hb) (hs.up hb) hst hr)
  have HR := Lib.hid hr
  have o64 := hr.no
  obtain ⟨inf, hi, iz0, iz1, iz2⟩ := info_parts infoI8
  obtain ⟨av, ai, ag, ao, cv, ci, cg, co⟩ := p
  unfold TaskV at *
  dsimp only at *
  clear hr
  cases e1 : stB t.vars s
  · have Hc : Hid (acC t s a1 a2 = 2) := Lib.hid (by unfold acC; rw [e1]; rfl)
    rw [e1] at K1
    clear K2 K3
    go_enter Try.func20, Try.ntmps20
    go_wp2_with fail; refine (K1.out _ (by repeat (first | exact Below.refl _ _ | refine below_dN ?_ _ | refine Below.drew ?_ | refine Below.alloc ?_ (by first | omega | (simp; done) | (simp; omega)) _ | refine Below.setCell ?_ (by first | omega | (simp; done) | (simp; omega)) _ | refine below_step (by assumption) (by first | omega | (simp; done) | (simp; omega)) ?_))).mono ?_; rintro e w1 ⟨rfl, hb1⟩; obtain ⟨hc1, hf1, hz1, hlt1, hle1⟩ := cellsIf hb1 (by (try simp); exact rfl); (try have : w.heap.size < w1.heap.size := (by omega)); (try have : w.heap.size < w1.heap.size + 1 := (by omega)); (try have : w.heap.size < w1.heap.size + 1 + 1 := (by omega)); (try have : w.heap.size + 1 < w1.heap.size := (by omega)); (try have : w.heap.size + 1 < w1.heap.size + 1 := (by omega)); (try have : w.heap.size + 1 < w1.heap.size + 1 + 1 := (by omega)); (try have : w.heap.size + 1 + 1 < w1.heap.size := (by omega)); (try have : w.heap.size + 1 + 1 < w1.heap.size + 1 := (by omega)); (try have : w.heap.size + 1 + 1 < w1.heap.size + 1 + 1 := (by omega))
    go_wp2
    refine bodyPost_ret (v := .tuple #[.slice none 0 0, .int .i64 2]) (by simp [results, Try.results20, go_sem]) rfl ⟨⟨.slice none 0 0, by rw [Hc.out], by unfold acL; rw [Hc.out]; exact got2_nil _ _⟩, by repeat (first | exact Below.refl _ _ | refine below_dN ?_ _ | refine Below.drew ?_ | refine Below.alloc ?_ (by first | omega | (simp; done) | (simp; omega)) _ | refine Below.setCell ?_ (by first | omega | (simp; done) | (simp; omega)) _ | refine below_step (by assumption) (by first | omega | (simp; done) | (simp; omega)) ?_)⟩
  have Hst := Lib.hid e1
  rw [e1] at K1
  cases e2 : faB t.vars [(a1, a2)]
  · have Hc : Hid (acC t s a1 a2 = 1) := Lib.hid (by unfold acC; rw [e1, e2]; rfl)
    rw [e2] at K2
    clear K3 e1 e2
    go_enter Try.func20, Try.ntmps20
    go_wp2_with fail; refine (K1.out _ (by repeat (first | exact Below.refl _ _ | refine below_dN ?_ _ | refine Below.drew ?_ | refine Below.alloc ?_ (by first | omega | (simp; done) | (simp; omega)) _ | refine Below.setCell ?_ (by first | omega | (simp; done) | (simp; omega)) _ | refine below_step (by assumption) (by first | omega | (simp; done) | (simp; omega)) ?_))).mono ?_; rintro e w1 ⟨rfl, hb1⟩; obtain ⟨hc1, hf1, hz1, hlt1, hle1⟩ := cellsIf hb1 (by (try simp); exact rfl); (try have : w.heap.size < w1.heap.size := (by omega)); (try have : w.heap.size < w1.heap.size + 1 := (by omega)); (try have : w.heap.size < w1.heap.size + 1 + 1 := (by omega)); (try have : w.heap.size + 1 < w1.heap.size := (by omega)); (try have : w.heap.size + 1 < w1.heap.size + 1 := (by omega)); (try have : w.heap.size + 1 < w1.heap.size + 1 + 1 := (by omega)); (try have : w.heap.size + 1 + 1 < w1.heap.size := (by omega)); (try have : w.heap.size + 1 + 1 < w1.heap.size + 1 := (by omega)); (try have : w.heap.size + 1 + 1 < w1.heap.size + 1 + 1 := (by omega))
    go_wp2_with fail; refine (K2.out _ _ (by repeat (first | exact Below.refl _ _ | refine below_dN ?_ _ | refine Below.drew ?_ | refine Below.alloc ?_ (by first | omega | (simp; done) | (simp; omega)) _ | refine Below.setCell ?_ (by first | omega | (simp; done) | (simp; omega)) _ | refine below_step (by assumption) (by first | omega | (simp; done) | (simp; omega)) ?_)) (factsAt_one (by first | omega | (simp; done) | (simp; omega)) (by first | (go_simp; done) | (simp [*]; done)) (by first | (go_simp; done) | (simp [*]; done)))).mono ?_; rintro e w2 ⟨rfl, hb2⟩; obtain ⟨hc2, hf2, hz2, hlt2, hle2⟩ := cellsIf hb2 (by (try simp); exact rfl); (try have : w.heap.size < w2.heap.size := (by omega)); (try have : w.heap.size < w2.heap.size + 1 := (by omega)); (try have : w.heap.size < w2.heap.size + 1 + 1 := (by omega)); (try have : w.heap.size + 1 < w2.heap.size := (by omega)); (try have : w.heap.size + 1 < w2.heap.size + 1 := (by omega)); (try have : w.heap.size + 1 < w2.heap.size + 1 + 1 := (by omega)); (try have : w.heap.size + 1 + 1 < w2.heap.size := (by omega)); (try have : w.heap.size + 1 + 1 < w2.heap.size + 1 := (by omega)); (try have : w.heap.size + 1 + 1 < w2.heap.size + 1 + 1 := (by omega)); (try have : w1.heap.size < w2.heap.size := (by omega)); (try have : w1.heap.size < w2.heap.size + 1 := (by omega)); (try have : w1.heap.size < w2.heap.size + 1 + 1 := (by omega)); (try have : w1.heap.size + 1 < w2.heap.size := (by omega)); (try have : w1.heap.size + 1 < w2.heap.size + 1 := (by omega)); (try have : w1.heap.size + 1 < w2.heap.size + 1 + 1 := (by omega)); (try have : w1.heap.size + 1 + 1 < w2.heap.size := (by omega)); (try have : w1.heap.size + 1 + 1 < w2.heap.size + 1 := (by omega)); (try have : w1.heap.size + 1 + 1 < w2.heap.size + 1 + 1 := (by omega))
    go_wp2
    refine bodyPost_ret (v := .tuple #[.slice none 0 0, .int .i64 1]) (by simp [results, Try.results20, go_sem]) rfl ⟨⟨.slice none 0 0, by rw [Hc.out], by unfold acL; rw [Hc.out]; exact got2_nil _ _⟩, by repeat (first | exact Below.refl _ _ | refine below_dN ?_ _ | refine Below.drew ?_ | refine Below.alloc ?_ (by first | omega | (simp; done) | (simp; omega)) _ | refine Below.setCell ?_ (by first | omega | (simp; done) | (simp; omega)) _ | refine below_step (by assumption) (by first | omega | (simp; done) | (simp; omega)) ?_)⟩
  have Hc : Hid (acC t s a1 a2 = 0) := Lib.hid (by unfold acC; rw [e1, e2]; rfl)
  rw [e2] at K2
  clear e1 e2
  go_enter Try.func20, Try.ntmps20
  go_wp2_with fail; refine (K1.out _ (by repeat (first | exact Below.refl _ _ | refine below_dN ?_ _ | refine Below.drew ?_ | refine Below.alloc ?_ (by first | omega | (simp; done) | (simp; omega)) _ | refine Below.setCell ?_ (by first | omega | (simp; done) | (simp; omega)) _ | refine below_step (by assumption) (by first | omega | (simp; done) | (simp; omega)) ?_))).mono ?_; rintro e w1 ⟨rfl, hb1⟩; obtain ⟨hc1, hf1, hz1, hlt1, hle1⟩ := cellsIf hb1 (by (try simp); exact rfl); (try have : w.heap.size < w1.heap.size := (by omega)); (try have : w.heap.size < w1.heap.size + 1 := (by omega)); (try have : w.heap.size < w1.heap.size + 1 + 1 := (by omega)); (try have : w.heap.size + 1 < w1.heap.size := (by omega)); (try have : w.heap.size + 1 < w1.heap.size + 1 := (by omega)); (try have : w.heap.size + 1 < w1.heap.size + 1 + 1 := (by omega)); (try have : w.heap.size + 1 + 1 < w1.heap.size := (by omega)); (try have : w.heap.size + 1 + 1 < w1.heap.size + 1 := (by omega)); (try have : w.heap.size + 1 + 1 < w1.heap.size + 1 + 1 := (by omega))
  go_wp2_with fail; refine (K2.out _ _ (by repeat (first | exact Below.refl _ _ | refine below_dN ?_ _ | refine Below.drew ?_ | refine Below.alloc ?_ (by first | omega | (simp; done) | (simp; omega)) _ | refine Below.setCell ?_ (by first | omega | (simp; done) | (simp; omega)) _ | refine below_step (by assumption) (by first | omega | (simp; done) | (simp; omega)) ?_)) (factsAt_one (by first | omega | (simp; done) | (simp; omega)) (by first | (go_simp; done) | (simp [*]; done)) (by first | (go_simp; done) | (simp [*]; done)))).mono ?_; rintro e w2 ⟨rfl, hb2⟩; obtain ⟨hc2, hf2, hz2, hlt2, hle2⟩ := cellsIf hb2 (by (try simp); exact rfl); (try have : w.heap.size < w2.heap.size := (by omega)); (try have : w.heap.size < w2.heap.size + 1 := (by omega)); (try have : w.heap.size < w2.heap.size + 1 + 1 := (by omega)); (try have : w.heap.size + 1 < w2.heap.size := (by omega)); (try have : w.heap.size + 1 < w2.heap.size + 1 := (by omega)); (try have : w.heap.size + 1 < w2.heap.size + 1 + 1 := (by omega)); (try have : w.heap.size + 1 + 1 < w2.heap.size := (by omega)); (try have : w.heap.size + 1 + 1 < w2.heap.size + 1 := (by omega)); (try have : w.heap.size + 1 + 1 < w2.heap.size + 1 + 1 := (by omega)); (try have : w1.heap.size < w2.heap.size := (by omega)); (try have : w1.heap.size < w2.heap.size + 1 := (by omega)); (try have : w1.heap.size < w2.heap.size + 1 + 1 := (by omega)); (try have : w1.heap.size + 1 < w2.heap.size := (by omega)); (try have : w1.heap.size + 1 < w2.heap.size + 1 := (by omega)); (try have : w1.heap.size + 1 < w2.heap.size + 1 + 1 := (by omega)); (try have : w1.heap.size + 1 + 1 < w2.heap.size := (by omega)); (try have : w1.heap.size + 1 + 1 < w2.heap.size + 1 := (by omega)); (try have : w1.heap.size + 1 + 1 < w2.heap.size + 1 + 1 := (by omega))
  have hbw2 : Below w.heap.size w w2 := by repeat (first | exact Below.refl _ _ | refine below_dN ?_ _ | refine Below.drew ?_ | refine Below.alloc ?_ (by first | omega | (simp; done) | (simp; omega)) _ | refine Below.setCell ?_ (by first | omega | (simp; done) | (simp; omega)) _ | refine below_step (by assumption) (by first | omega | (simp; done) | (simp; omega)) ?_)
  have hbx2 : Boxed w2 w.heap.size t ⟨av, ai, ag, ao, cv, ci, cg, co⟩ := by
    have h0 : Boxed (w.alloc (.cells #[.slice av t.vars.length cv, .slice ai t.init.length ci, .slice ag t.goal.length cg, .slice ao t.ops.length co] 26)) w.heap.size t ⟨av, ai, ag, ao, cv, ci, cg, co⟩ := by constructor <;> simp
    exact ((h0.up ((Below.refl _ _).alloc (Nat.le_refl _) _)).up hb1).up (((Below.refl _ _).alloc (Nat.le_refl _) _).trans (hb2.mono (by simp)))
  have z2 := hbw2.size
  have t0 : w2.cell? ⟨w.heap.size + 1, 0, none⟩ = some (.int .i64 a1) := by go_simp
  have t1 : w2.cell? ⟨w.heap.size + 1, 1, none⟩ = some (.int .i64 a2) := by go_simp
  have zz : w.heap.size + 2 ≤ w2.heap.size := by omega
  clear hc1 hf1 hlt1 hle1 hb1 hz1 hc2 hf2 hlt2 hle2 hb2 hz2
  obtain ⟨z0, y0, y1, y2, y3⟩ := id hbx2
  dsimp only at y0 y1 y2 y3
  go_wp2_with fail
  refine (K3.out _ hbw2 Hst.out).mono ?_
  rintro e w3 ⟨⟨A, c, g, rb, rfl, hA, hm⟩, hb3⟩
  have hbw3 := hbw2.trans (hb3.mono z2)
  have hbx3 := hbx2.up hb3
  have t0' := (hb3.cell (p := ⟨w.heap.size + 1, 0, none⟩) (by show w.heap.size + 1 < _; omega)).trans t0
  have t1' := (hb3.cell (p := ⟨w.heap.size + 1, 1, none⟩) (by show w.heap.size + 1 < _; omega)).trans t1
  have z3 := hb3.size
  have HM := Lib.hid hm
  have HA := Lib.hid hA
  clear hm hA z0 y0 y1 y2 y3 hbx2 t0 t1 hb3
  obtain ⟨z0, y0, y1, y2, y3⟩ := id hbx3
  dsimp only at y0 y1 y2 y3
  go_wp2
  go_loopw [9, 33] (fun v i wr => ∃ (k : Nat), k ≤ t.ops.length ∧ i = .int .i64 k ∧ Hid (wr.ownsRow w3.heap.size 3 1 v (achN t s (a1, a2) k).length (ic (achN t s (a1, a2) k))) ∧ Below w3.heap.size w3 wr) (fun _ i _ => t.ops.length - (intOf i).toNat)
  case atStart => exact ⟨0, by omega, rfl, Lib.hid (World.ownsRow_nil _ _ _ _), Below.refl _ _⟩
  case round =>
    clear z0 y0 y1 y2 y3
    obtain ⟨k, hk, rfl, hown, hbel⟩ := hrel
    obtain ⟨wb, rfl⟩ : ∃ wb : World, wb = wr := ⟨_, rfl⟩
    have hbz := hbel.size
    have hz3 := hbw3.size
    have hbwr : Below w.heap.size w wb := hbw3.trans (hbel.mono hz3)
    obtain ⟨z0, y0, y1, y2, y3⟩ := id (hbx3.up hbel)
    dsimp only at y0 y1 y2 y3
    by_cases hlt : k < t.ops.length
    · obtain ⟨b, o, S, cS, T, d, ea, hb, n0, n1, n2, n3, f2, n4, e3⟩ := ht.ops.at2 hbwr hlt
      dsimp only at ea
      subst ea
      have g2 : b < wb.heap.size := by have := hbwr.size; omega
      have j1 := f2.len
      have j2 := e3.len
      have npr := HR.out.np k hlt
      have nef := HR.out.ne k hlt
      have lach := achN_len (t := t) (s := s) (f := (a1, a2)) k
      have k0 : (0 : Int) ≤ (k : Int) := by omega
      have k1 : (k : Int) < (t.ops.length : Int) := by omega
      go_wp2
      go_loopw [12, 41] (fun v i wr => ∃ (j : Nat), j ≤ (opr t.ops k).effs.length ∧ i = .int .i64 j ∧ v = .bool (anyB j (acE t s (a1, a2) k)) ∧ Below (wb.heap.size + 1) (wb.alloc (.cells #[.string (opr t.ops k).name, .int .i64 (opr t.ops k).cost, .slice S (opr t.ops k).pre.length cS, .slice T (opr t.ops k).effs.length d] 67)) wr) (fun _ i _ => (opr t.ops k).effs.length - (intOf i).toNat)
      case atStart => exact ⟨0, by omega, rfl, rfl, Below.refl _ _⟩
      case round =>
        clear z0 y0 y1 y2 y3 n0 n1 n2 n3 n4
        obtain ⟨j, hj, rfl, rfl, hb1⟩ := hrel
        have hb01 : Below wb.heap.size wb wr := ((Below.refl _ _).alloc (Nat.le_refl _) _).trans (hb1.mono (Nat.le_succ _))
        have hbelr := hbwr.trans (hb01.mono hbwr.size)
        have hb3r := hbel.trans (hb01.mono hbz)
        have hs1 := hb1.size
        simp only [World.size_alloc] at hs1
        have p2 : wr.cell? ⟨wb.heap.size, 2, none⟩ = some (.slice S (opr t.ops k).pre.length cS) := (hb1.cell (p := ⟨wb.heap.size, 2, none⟩) (Nat.lt_succ_self _)).trans (by simp)
        have p3 : wr.cell? ⟨wb.heap.size, 3, none⟩ = some (.slice T (opr t.ops k).effs.length d) := (hb1.cell (p := ⟨wb.heap.size, 3, none⟩) (Nat.lt_succ_self _)).trans (by simp)
        have gp : wb.heap.size < wr.heap.size := by omega
        have p0 : wr.cell? ⟨w.heap.size + 1, 0, none⟩ = some (.int .i64 a1) := (hb3r.cell (p := ⟨w.heap.size + 1, 0, none⟩) (by show w.heap.size + 1 < _; omega)).trans t0'
        have p1 : wr.cell? ⟨w.heap.size + 1, 1, none⟩ = some (.int .i64 a2) := (hb3r.cell (p := ⟨w.heap.size + 1, 1, none⟩) (by show w.heap.size + 1 < _; omega)).trans t1'
        have gw : w.heap.size + 1 < wr.heap.size := by omega
        by_cases hltj : j < (opr t.ops k).effs.length
        · obtain ⟨b', o', S', c', ea', hb', i0, f5, i1, i2⟩ := e3.at2 hbelr hltj
          subst ea'
          have g3 : b' < wr.heap.size := by have := hbelr.size; omega
          have j3 := f5.len
          have nwh := HR.out.nw k hlt j hltj
          have j0 : (0 : Int) ≤ (j : Int) := by omega
          have j4 : (j : Int) < ((opr t.ops k).effs.length : Int) := by omega
          have HS : Hid (anyB (j + 1) (acE t s (a1, a2) k) = (anyB j (acE t s (a1, a2) k) || acE t s (a1, a2) k j)) := anyB_succ _ _
          have HE : Hid (acE t s (a1, a2) k j = (decide (efF t k j = (a1, a2)) && (hsM (opr t.ops k).pre (rcB t s (a1, a2)) && hsM (eff (opr t.ops k).effs j).whn (rcB t s (a1, a2))))) := rfl
          have hef : efF t k j = ((eff (opr t.ops k).effs j).var, (eff (opr t.ops k).effs j).val) := rfl
          have Hef := Lib.hid hef
          have KP := Lib.hid (fun wx (hb : Below wr.heap.size wr wx) => rall_any t (opr t.ops k).pre (rcB t s (a1, a2)) A S c cS g rb wx HA.out ((HM.out.up hb3r).up hb) ((f2.up hbelr).up hb) (rng_fa (HR.out.pre k hlt)))
          have KW := Lib.hid (fun wx (hb : Below wr.heap.size wr wx) => rall_any t (eff (opr t.ops k).effs j).whn (rcB t s (a1, a2)) A S' c c' g rb wx HA.out ((HM.out.up hb3r).up hb) ((f5.up hbelr).up hb) (rng_fa (HR.out.whn k hlt j hltj)))
          clear hef
          obtain ⟨W0, hW0⟩ : ∃ W0, W0 = wr.alloc (.cells #[.slice S' (eff (opr t.ops k).effs j).whn.length c', .int .i64 (eff (opr t.ops k).effs j).var, .int .i64 (eff (opr t.ops k).effs j).val] 78) := ⟨_, rfl⟩
          have hb8 : Below wr.heap.size wr W0 := by rw [hW0]; exact (Below.refl _ _).alloc (Nat.le_refl _) _
          have HW0 := Lib.hid hW0
          cases ei : anyB j (acE t s (a1, a2) k)
          case true =>
            have Hs := Lib.hid (show anyB (j + 1) (acE t s (a1, a2) k) = true by rw [HS.out, ei]; rfl)
            rw [hW0] at hb8
            clear KP KW HE hW0 HW0 ei
            go_wp2
            go_roundw
            case rel => exact ⟨j + 1, by omega, by go_num, by rw [Hs.out], hb1.trans (hb8.mono hs1)⟩
            case measure => simp [intOf]; omega
          by_cases h1 : (eff (opr t.ops k).effs j).var = a1
          case neg =>
            have Hs := Lib.hid (show anyB (j + 1) (acE t s (a1, a2) k) = false by rw [HS.out, ei, HE.out, decide_eq_false (fun e => h1 (by rw [Hef.out] at e; exact congrArg Prod.fst e))]; rfl)
            have h3 : ((eff (opr t.ops k).effs j).var == a1) = false := by simpa using h1
            have h4 : decide ((eff (opr t.ops k).effs j).var = a1) = false := by simpa using h1
            rw [hW0] at hb8
            clear KP KW HE hW0 HW0 ei
            go_wp2
            go_roundw
            case rel => exact ⟨j + 1, by omega, by go_num, by rw [Hs.out], hb1.trans (hb8.mono hs1)⟩
            case measure => simp [intOf]; omega
          by_cases h2 : (eff (opr t.ops k).effs j).val = a2
          case neg =>
            have Hs := Lib.hid (show anyB (j + 1) (acE t s (a1, a2) k) = false by rw [HS.out, ei, HE.out, decide_eq_false (fun e => h2 (by rw [Hef.out] at e; exact congrArg Prod.snd e))]; rfl)
            have h3 : ((eff (opr t.ops k).effs j).var == a1) = true := by simpa using h1
            have h5 : ((eff (opr t.ops k).effs j).val == a2) = false := by simpa using h2
            have h6 : decide ((eff (opr t.ops k).effs j).val = a2) = false := by simpa using h2
            have h7 : decide ((eff (opr t.ops k).effs j).var = a1) = true := by simpa using h1
            rw [hW0] at hb8
            clear KP KW HE hW0 HW0 ei h1
            go_wp2
            go_roundw
            case rel => exact ⟨j + 1, by omega, by go_num, by rw [Hs.out], hb1.trans (hb8.mono hs1)⟩
            case measure => simp [intOf]; omega
          have hE2 : acE t s (a1, a2) k j = (hsM (opr t.ops k).pre (rcB t s (a1, a2)) && hsM (eff (opr t.ops k).effs j).whn (rcB t s (a1, a2))) := by rw [HE.out, decide_eq_true (by rw [Hef.out, h1, h2])]; rfl
          have HE2 := Lib.hid hE2
          have h3 : ((eff (opr t.ops k).effs j).var == a1) = true := by simpa using h1
          have h5 : ((eff (opr t.ops k).effs j).val == a2) = true := by simpa using h2
          have h6 : decide ((eff (opr t.ops k).effs j).val = a2) = true := by simpa using h2
          have h7 : decide ((eff (opr t.ops k).effs j).var = a1) = true := by simpa using h1
          clear hE2 HE h1 h2
          cases e4 : hsM (opr t.ops k).pre (rcB t s (a1, a2))
          case false =>
            have Hs := Lib.hid (show anyB (j + 1) (acE t s (a1, a2) k) = false by rw [HS.out, ei, HE2.out, e4]; rfl)
            rw [e4] at KP
            rw [hW0] at hb8
            clear KW HE2 hW0 HW0 ei e4
            go_wp2_with fail
            refine (KP.out _ (by repeat (first | exact Below.refl _ _ | refine below_dN ?_ _ | refine Below.drew ?_ | refine Below.alloc ?_ (by first | omega | (simp; done) | (simp; omega)) _ | refine Below.setCell ?_ (by first | omega | (simp; done) | (simp; omega)) _ | refine below_step (by assumption) (by first | omega | (simp; done) | (simp; omega)) ?_))).mono ?_
            rintro e w8 ⟨rfl, hb9⟩
            have hb89 := hb8.trans (hb9.mono (by simp))
            clear hb9
            go_wp2
            go_roundw
            case rel => exact ⟨j + 1, by omega, by go_num, by rw [Hs.out], hb1.trans (hb89.mono hs1)⟩
            case measure => simp [intOf]; omega
          obtain ⟨e5v, he5⟩ : ∃ e5v, hsM (eff (opr t.ops k).effs j).whn (rcB t s (a1, a2)) = e5v := ⟨_, rfl⟩
          have Hs := Lib.hid (show anyB (j + 1) (acE t s (a1, a2) k) = e5v by rw [HS.out, ei, HE2.out, e4, he5]; simp)
          rw [e4] at KP
          rw [he5] at KW
          rw [hW0] at hb8
          clear HE2 hW0 HW0 ei e4 he5
          go_wp2_with fail
          refine (KP.out _ (by repeat (first | exact Below.refl _ _ | refine below_dN ?_ _ | refine Below.drew ?_ | refine Below.alloc ?_ (by first | omega | (simp; done) | (simp; omega)) _ | refine Below.setCell ?_ (by first | omega | (simp; done) | (simp; omega)) _ | refine below_step (by assumption) (by first | omega | (simp; done) | (simp; omega)) ?_))).mono ?_
          rintro e w8 ⟨rfl, hb9⟩
          have hb89 := hb8.trans (hb9.mono (by simp))
          have i0' : w8.cell? ⟨wr.heap.size, 0, none⟩ = some (.slice S' (eff (opr t.ops k).effs j).whn.length c') := (hb9.cell (p := ⟨wr.heap.size, 0, none⟩) (by simp)).trans (by simp)
          have gz : wr.heap.size < w8.heap.size := by have := hb9.size; simp at this; omega
          have zr8 := hb89.size
          clear hb9
          go_wp2_with fail
          refine (KW.out _ hb89).mono ?_
          rintro e w10 ⟨rfl, hb10⟩
          have hb810 := hb89.trans (hb10.mono zr8)
          clear hb10
          go_wp2
          go_roundw
          case rel => exact ⟨j + 1, by omega, by go_num, by rw [Hs.out], hb1.trans (hb810.mono hs1)⟩
          case measure => simp [intOf]; omega
        · obtain rfl : j = (opr t.ops k).effs.length := by omega
          have Hown2 := Lib.hid (own_below hown.out hb01)
          have z3r := hb3r.size
          have acb : Hid (acB t s (a1, a2) k = anyB (opr t.ops k).effs.length (acE t s (a1, a2) k)) := rfl
          cases ei : anyB (opr t.ops k).effs.length (acE t s (a1, a2) k)
          · have Hs := Lib.hid (achN_no (t := t) (s := s) (f := (a1, a2)) (k := k) (by rw [acb.out, ei]))
            clear ei acb
            go_wp2
            go_roundw
            case rel => exact ⟨k + 1, by omega, by go_num, Lib.hid (by rw [Hs.out]; exact Hown2.out), hb3r⟩
            case measure => simp [intOf]; omega
          · have Hs := Lib.hid (achN_yes (t := t) (s := s) (f := (a1, a2)) (k := k) (by rw [acb.out, ei]))
            clear ei acb
            go_wp2_with (at_builtin; refine wpList_push rfl _ _ 22 rfl w3.heap.size 3 inf (.int .i64 0) 1 8 undI8 hi iz0 iz1 iz2 rfl (by decide) (by decide) _ (achN t s (a1, a2) k).length (ic (achN t s (a1, a2) k)) rfl (Hown2.out.alloc _) wr.heap.size 3 [.int .i64 (k : Int)] rfl rfl (heap_alloc_new _ _) (one_one rfl) (by omega) (by first | omega | (simp; omega)) (B := w3.heap.size) (W := w3) (hb3r.alloc z3r _) (Nat.le_refl _) ?_; intro v' w8 hown' hgrow hat hbw8; have Hown := Lib.hid hown'; clear hown' hgrow hat)
            go_roundw
            case rel => exact ⟨k + 1, by omega, by go_num, Lib.hid (by rw [Hs.out, List.length_append, ← ic_push]; exact Hown.out), hbw8⟩
            case measure => simp [intOf]; omega
    · obtain rfl : k = t.ops.length := by omega
      have hg := own_got2 hown.out (by have := achN_len (t := t) (s := s) (f := (a1, a2)) t.ops.length; omega)
      obtain ⟨A', c', rfl, hA', hI', hlo'⟩ := hg
      have Hg : Hid (GotI2 wb w.heap.size (.slice A' (achN t s (a1, a2) t.ops.length).length c') (acL t s a1 a2)) := Lib.hid (by unfold acL; rw [Hc.out, if_pos rfl]; exact ⟨A', c', rfl, hA', hI', fun a e => Nat.le_trans hbw3.size (hlo' a e)⟩)
      clear hA' hI' hlo' hown
      go_wp2
      refine bodyPost_ret (v := .tuple #[.slice A' (achN t s (a1, a2) t.ops.length).length c', .int .i64 0]) (by simp [results, Try.results20, go_sem]) rfl ⟨⟨_, by rw [Hc.out], Hg.out⟩, hbwr⟩

end Go.Proofs.Ythhfckjddknmeaa

/- The law LandmarkGoals. -/
import Derived.Test.YtenmeiplglbafaaLmV
namespace Go.Proofs.Ytenmeiplglbafaa
set_option linter.unusedSimpArgs false
set_option linter.unusedVariables false
open Go Go.RowKit
set_option linter.unusedVariables false

section
variable {t : Tsk} {s : List Int}
/-- A fact that the state lacks is not reached without it. -/
theorem rch_self (hr : Right t) {f : Int × Int} (h0 : 0 ≤ f.1) (h1 : 0 ≤ f.2) (hs : StP t.vars s) (hv : f.1 < t.vars.length) (hn : nth s f.1.toNat ≠ f.2) : rcB t s f f.1.toNat f.2.toNat = false := by
  rw [Bool.eq_false_iff]
  intro h
  have hh := rcB_iff.1 h
  have key : ∀ v x, Rch t s f v x → v = f.1.toNat → x = f.2.toNat → False := by
    intro v x hr2 ev ex
    cases hr2 with
    | start hv2 =>
      have := hs.2 f.1.toNat (by rw [hs.1]; omega)
      subst ev
      exact hn (by omega)
    | @step k j hk hj hne _ _ =>
      have he := hr.eff k hk j hj
      apply hne
      have e1 : (efF t k j).1 = (eff (opr t.ops k).effs j).var := rfl
      have e2 : (efF t k j).2 = (eff (opr t.ops k).effs j).val := rfl
      exact Prod.ext (by omega) (by omega)
  exact key _ _ hh rfl rfl
/-- A goal fact that the state lacks is a landmark. -/
theorem goal_lm (hr : Right t) (hst : stB t.vars s = true) {i : Nat} (hi : i < t.goal.length) (hn : nth s (fv t.goal i).toNat ≠ fx t.goal i) : fac t.goal i ∈ lmks t s := by
  have hg := fa_at hr.goal hi
  have hs' : StP t.vars s := by unfold stB at hst; simpa using hst
  refine mem_lmks.2 ⟨mem_alF.2 ⟨hg.1, hg.2.1, hg.2.2.1, hg.2.2.2⟩, hn, ?_⟩
  have h := rch_self (f := fac t.goal i) hr hg.1 hg.2.2.1 hs' hg.2.1 hn
  rw [Bool.eq_false_iff]
  intro hh
  have := hsM_iff.1 hh i hi
  have e : rcB t s (fac t.goal i) (fv t.goal i).toNat (fx t.goal i).toNat = false := h
  rw [e] at this
  cases this
/-- A goal state has no landmarks. -/
theorem goal_no (hr : Right t) (hg : ∀ i, i < t.goal.length → nth s (fv t.goal i).toNat = fx t.goal i) : lmks t s = [] := by
  rw [List.eq_nil_iff_forall_not_mem]
  intro f hf
  have h := (mem_lmks.1 hf).2.2
  have : hsM t.goal (rcB t s f) = true := hsM_iff.2 fun i hi => by
    have := fa_at hr.goal hi
    rw [← hg i hi]
    exact rcB_st (by omega)
  rw [this] at h; cases h
end

set_option maxRecDepth 100000 in
set_option maxHeartbeats 2000000 in
theorem facts_nil (AS : Option Addr) (n cs : Nat) (w : World) : Calls Try.prog 15 #[.pointer none, .slice AS n cs] w fun e w' => e = .returned (.tuple #[.slice none 0 0, .iface 43 (.int .i64 3)]) ∧ Below w.heap.size w w' := by
  go_enter Try.func15, Try.ntmps15
  go_wp2
  refine bodyPost_ret (v := .tuple #[.slice none 0 0, .iface 43 (.int .i64 3)]) (by simp [results, Try.results15, go_sem]) rfl ⟨rfl, by repeat (first | exact Below.refl _ _ | refine below_dN ?_ _ | refine Below.drew ?_ | refine Below.alloc ?_ (by first | omega | (simp; done) | (simp; omega)) _ | refine Below.setCell ?_ (by first | omega | (simp; done) | (simp; omega)) _ | refine below_step (by assumption) (by first | omega | (simp; done) | (simp; omega)) ?_)⟩
set_option maxRecDepth 100000 in
set_option maxHeartbeats 2000000 in
theorem achievers_nil (AS : Option Addr) (n cs : Nat) (x y : Int) (w : World) : Calls Try.prog 31 #[.pointer none, .slice AS n cs, .agg #[.int .i64 x, .int .i64 y]] w fun e w' => e = .returned (.tuple #[.slice none 0 0, .iface 43 (.int .i64 3)]) ∧ Below w.heap.size w w' := by
  go_enter Try.func31, Try.ntmps31
  go_wp2
  refine bodyPost_ret (v := .tuple #[.slice none 0 0, .iface 43 (.int .i64 3)]) (by simp [results, Try.results31, go_sem]) rfl ⟨rfl, by repeat (first | exact Below.refl _ _ | refine below_dN ?_ _ | refine Below.drew ?_ | refine Below.alloc ?_ (by first | omega | (simp; done) | (simp; omega)) _ | refine Below.setCell ?_ (by first | omega | (simp; done) | (simp; omega)) _ | refine below_step (by assumption) (by first | omega | (simp; done) | (simp; omega)) ?_)⟩
set_option maxRecDepth 100000 in
set_option maxHeartbeats 2000000 in
theorem cuts_nil (AS : Option Addr) (n cs : Nat) (w : World) : Calls Try.prog 34 #[.pointer none, .slice AS n cs] w fun e w' => e = .returned (.tuple #[.slice none 0 0, .iface 43 (.int .i64 3)]) ∧ Below w.heap.size w w' := by
  go_enter Try.func34, Try.ntmps34
  go_wp2_with fail
  refine (facts_nil AS n cs _).mono ?_
  rintro e w1 ⟨rfl, hb1⟩
  go_wp2
  refine bodyPost_ret (v := .tuple #[.slice none 0 0, .iface 43 (.int .i64 3)]) (by simp [results, Try.results34, go_sem]) rfl ⟨rfl, by first | exact hb1 | repeat (first | exact Below.refl _ _ | refine below_dN ?_ _ | refine Below.drew ?_ | refine Below.alloc ?_ (by first | omega | (simp; done) | (simp; omega)) _ | refine Below.setCell ?_ (by first | omega | (simp; done) | (simp; omega)) _ | refine below_step (by assumption) (by first | omega | (simp; done) | (simp; omega)) ?_)⟩
set_option maxRecDepth 100000 in
set_option maxHeartbeats 2000000 in
theorem orders_nil (AS : Option Addr) (n cs : Nat) (w : World) : Calls Try.prog 30 #[.pointer none, .slice AS n cs] w fun e w' => e = .returned (.tuple #[.slice none 0 0, .iface 43 (.int .i64 3)]) ∧ Below w.heap.size w w' := by
  go_enter Try.func30, Try.ntmps30
  go_wp2_with fail
  refine (facts_nil AS n cs _).mono ?_
  rintro e w1 ⟨rfl, hb1⟩
  go_wp2
  refine bodyPost_ret (v := .tuple #[.slice none 0 0, .iface 43 (.int .i64 3)]) (by simp [results, Try.results30, go_sem]) rfl ⟨rfl, by first | exact hb1 | repeat (first | exact Below.refl _ _ | refine below_dN ?_ _ | refine Below.drew ?_ | refine Below.alloc ?_ (by first | omega | (simp; done) | (simp; omega)) _ | refine Below.setCell ?_ (by first | omega | (simp; done) | (simp; omega)) _ | refine below_step (by assumption) (by first | omega | (simp; done) | (simp; omega)) ?_)⟩
set_option maxRecDepth 100000 in
set_option maxHeartbeats 2000000 in
theorem before_nil (AS : Option Addr) (n cs : Nat) (x y u v : Int) (w : World) : Calls Try.prog 24 #[.pointer none, .slice AS n cs, .agg #[.int .i64 x, .int .i64 y], .agg #[.int .i64 u, .int .i64 v]] w fun e w' => e = .returned (.bool false) ∧ Below w.heap.size w w' := by
  go_enter Try.func24, Try.ntmps24
  go_wp2
  go_ret
  exact ⟨rfl, by repeat (first | exact Below.refl _ _ | refine below_dN ?_ _ | refine Below.drew ?_ | refine Below.alloc ?_ (by first | omega | (simp; done) | (simp; omega)) _ | refine Below.setCell ?_ (by first | omega | (simp; done) | (simp; omega)) _ | refine below_step (by assumption) (by first | omega | (simp; done) | (simp; omega)) ?_)⟩

def gB (t : Tsk) (s : List Int) (k : Nat) : Bool := !anyB k fun i => !decide (nth s (fv t.goal i).toNat = fx t.goal i)

set_option maxRecDepth 100000 in
set_option maxHeartbeats 8000000 in
theorem landmarkGoals_any (t : Tsk) (p : Lies) (s : List Int) (AS : Option Addr) (cs : Nat) (w : World) (ht : TaskAt w w.heap.size t p) (hs : IntsAt w w.heap.size AS s) :
    Calls Try.prog 11 #[TaskV t p, .slice AS s.length cs] w fun e w' => e = .returned (.bool true) ∧ Below w.heap.size w w' := by
  have k0 := fun w1 => awake36_any w1
  have k1 := fun w1 (hb : Below w.heap.size w w1) => small_any t p w1 (ht.up hb)
  have k2 := fun w1 h (hb : Below w.heap.size w w1) => new_any t p w1 (ht.up hb) h
  have k3 := fun w1 h (hb : Below w.heap.size w w1) => new_no t p w1 (ht.up hb) h
  have k4 := fun w1 (hb : Below w.heap.size w w1) => good_any t p w1 (ht.up hb)
  have lg := ht.goal.len
  have lv := ht.vars.len
  have lo := ht.ops.len
  have ls := hs.len
  obtain ⟨av, ai, ag, ao, cv, ci, cg, co⟩ := p
  unfold TaskV at *
  dsimp only at *
  have K1 := Lib.hid k1
  have K2 := Lib.hid k2
  have K3 := Lib.hid k3
  have K4 := Lib.hid k4
  clear k1 k2 k3 k4
  by_cases q1 : (12 : Int) < t.vars.length
  · go_enter Try.func11, Try.ntmps11
    go_wp2_with fail; refine (k0 _).mono ?_; rintro e w1 ⟨rfl, hb1⟩; obtain ⟨hc1, hf1, hz1, hlt1, hle1⟩ := cellsIf hb1 (by (try simp); exact rfl); (try have : w.heap.size < w1.heap.size := (by omega)); (try have : w.heap.size < w1.heap.size + 1 := (by omega)); (try have : w.heap.size < w1.heap.size + 1 + 1 := (by omega)); (try have : w.heap.size + 1 < w1.heap.size := (by omega)); (try have : w.heap.size + 1 < w1.heap.size + 1 := (by omega)); (try have : w.heap.size + 1 < w1.heap.size + 1 + 1 := (by omega)); (try have : w.heap.size + 1 + 1 < w1.heap.size := (by omega)); (try have : w.heap.size + 1 + 1 < w1.heap.size + 1 := (by omega)); (try have : w.heap.size + 1 + 1 < w1.heap.size + 1 + 1 := (by omega))
    go_wp2_with fail; refine (k0 _).mono ?_; rintro e w2 ⟨rfl, hb2⟩; obtain ⟨hc2, hf2, hz2, hlt2, hle2⟩ := cellsIf hb2 (by (try simp); exact rfl); (try have : w.heap.size < w2.heap.size := (by omega)); (try have : w.heap.size < w2.heap.size + 1 := (by omega)); (try have : w.heap.size < w2.heap.size + 1 + 1 := (by omega)); (try have : w.heap.size + 1 < w2.heap.size := (by omega)); (try have : w.heap.size + 1 < w2.heap.size + 1 := (by omega)); (try have : w.heap.size + 1 < w2.heap.size + 1 + 1 := (by omega)); (try have : w.heap.size + 1 + 1 < w2.heap.size := (by omega)); (try have : w.heap.size + 1 + 1 < w2.heap.size + 1 := (by omega)); (try have : w.heap.size + 1 + 1 < w2.heap.size + 1 + 1 := (by omega)); (try have : w1.heap.size < w2.heap.size := (by omega)); (try have : w1.heap.size < w2.heap.size + 1 := (by omega)); (try have : w1.heap.size < w2.heap.size + 1 + 1 := (by omega)); (try have : w1.heap.size + 1 < w2.heap.size := (by omega)); (try have : w1.heap.size + 1 < w2.heap.size + 1 := (by omega)); (try have : w1.heap.size + 1 < w2.heap.size + 1 + 1 := (by omega)); (try have : w1.heap.size + 1 + 1 < w2.heap.size := (by omega)); (try have : w1.heap.size + 1 + 1 < w2.heap.size + 1 := (by omega)); (try have : w1.heap.size + 1 + 1 < w2.heap.size + 1 + 1 := (by omega))
    go_wp2
    go_ret
    exact ⟨rfl, by repeat (first | exact Below.refl _ _ | refine below_dN ?_ _ | refine Below.drew ?_ | refine Below.alloc ?_ (by first | omega | (simp; done) | (simp; omega)) _ | refine Below.setCell ?_ (by first | omega | (simp; done) | (simp; omega)) _ | refine below_step (by assumption) (by first | omega | (simp; done) | (simp; omega)) ?_)⟩
  by_cases q2 : (20 : Int) < t.ops.length
  · go_enter Try.func11, Try.ntmps11
    go_wp2_with fail; refine (k0 _).mono ?_; rintro e w1 ⟨rfl, hb1⟩; obtain ⟨hc1, hf1, hz1, hlt1, hle1⟩ := cellsIf hb1 (by (try simp); exact rfl); (try have : w.heap.size < w1.heap.size := (by omega)); (try have : w.heap.size < w1.heap.size + 1 := (by omega)); (try have : w.heap.size < w1.heap.size + 1 + 1 := (by omega)); (try have : w.heap.size + 1 < w1.heap.size := (by omega)); (try have : w.heap.size + 1 < w1.heap.size + 1 := (by omega)); (try have : w.heap.size + 1 < w1.heap.size + 1 + 1 := (by omega)); (try have : w.heap.size + 1 + 1 < w1.heap.size := (by omega)); (try have : w.heap.size + 1 + 1 < w1.heap.size + 1 := (by omega)); (try have : w.heap.size + 1 + 1 < w1.heap.size + 1 + 1 := (by omega))
    go_wp2_with fail; refine (k0 _).mono ?_; rintro e w2 ⟨rfl, hb2⟩; obtain ⟨hc2, hf2, hz2, hlt2, hle2⟩ := cellsIf hb2 (by (try simp); exact rfl); (try have : w.heap.size < w2.heap.size := (by omega)); (try have : w.heap.size < w2.heap.size + 1 := (by omega)); (try have : w.heap.size < w2.heap.size + 1 + 1 := (by omega)); (try have : w.heap.size + 1 < w2.heap.size := (by omega)); (try have : w.heap.size + 1 < w2.heap.size + 1 := (by omega)); (try have : w.heap.size + 1 < w2.heap.size + 1 + 1 := (by omega)); (try have : w.heap.size + 1 + 1 < w2.heap.size := (by omega)); (try have : w.heap.size + 1 + 1 < w2.heap.size + 1 := (by omega)); (try have : w.heap.size + 1 + 1 < w2.heap.size + 1 + 1 := (by omega)); (try have : w1.heap.size < w2.heap.size := (by omega)); (try have : w1.heap.size < w2.heap.size + 1 := (by omega)); (try have : w1.heap.size < w2.heap.size + 1 + 1 := (by omega)); (try have : w1.heap.size + 1 < w2.heap.size := (by omega)); (try have : w1.heap.size + 1 < w2.heap.size + 1 := (by omega)); (try have : w1.heap.size + 1 < w2.heap.size + 1 + 1 := (by omega)); (try have : w1.heap.size + 1 + 1 < w2.heap.size := (by omega)); (try have : w1.heap.size + 1 + 1 < w2.heap.size + 1 := (by omega)); (try have : w1.heap.size + 1 + 1 < w2.heap.size + 1 + 1 := (by omega))
    go_wp2
    go_ret
    exact ⟨rfl, by repeat (first | exact Below.refl _ _ | refine below_dN ?_ _ | refine Below.drew ?_ | refine Below.alloc ?_ (by first | omega | (simp; done) | (simp; omega)) _ | refine Below.setCell ?_ (by first | omega | (simp; done) | (simp; omega)) _ | refine below_step (by assumption) (by first | omega | (simp; done) | (simp; omega)) ?_)⟩
  by_cases q3 : (20 : Int) < s.length
  · go_enter Try.func11, Try.ntmps11
    go_wp2_with fail; refine (k0 _).mono ?_; rintro e w1 ⟨rfl, hb1⟩; obtain ⟨hc1, hf1, hz1, hlt1, hle1⟩ := cellsIf hb1 (by (try simp); exact rfl); (try have : w.heap.size < w1.heap.size := (by omega)); (try have : w.heap.size < w1.heap.size + 1 := (by omega)); (try have : w.heap.size < w1.heap.size + 1 + 1 := (by omega)); (try have : w.heap.size + 1 < w1.heap.size := (by omega)); (try have : w.heap.size + 1 < w1.heap.size + 1 := (by omega)); (try have : w.heap.size + 1 < w1.heap.size + 1 + 1 := (by omega)); (try have : w.heap.size + 1 + 1 < w1.heap.size := (by omega)); (try have : w.heap.size + 1 + 1 < w1.heap.size + 1 := (by omega)); (try have : w.heap.size + 1 + 1 < w1.heap.size + 1 + 1 := (by omega))
    go_wp2_with fail; refine (k0 _).mono ?_; rintro e w2 ⟨rfl, hb2⟩; obtain ⟨hc2, hf2, hz2, hlt2, hle2⟩ := cellsIf hb2 (by (try simp); exact rfl); (try have : w.heap.size < w2.heap.size := (by omega)); (try have : w.heap.size < w2.heap.size + 1 := (by omega)); (try have : w.heap.size < w2.heap.size + 1 + 1 := (by omega)); (try have : w.heap.size + 1 < w2.heap.size := (by omega)); (try have : w.heap.size + 1 < w2.heap.size + 1 := (by omega)); (try have : w.heap.size + 1 < w2.heap.size + 1 + 1 := (by omega)); (try have : w.heap.size + 1 + 1 < w2.heap.size := (by omega)); (try have : w.heap.size + 1 + 1 < w2.heap.size + 1 := (by omega)); (try have : w.heap.size + 1 + 1 < w2.heap.size + 1 + 1 := (by omega)); (try have : w1.heap.size < w2.heap.size := (by omega)); (try have : w1.heap.size < w2.heap.size + 1 := (by omega)); (try have : w1.heap.size < w2.heap.size + 1 + 1 := (by omega)); (try have : w1.heap.size + 1 < w2.heap.size := (by omega)); (try have : w1.heap.size + 1 < w2.heap.size + 1 := (by omega)); (try have : w1.heap.size + 1 < w2.heap.size + 1 + 1 := (by omega)); (try have : w1.heap.size + 1 + 1 < w2.heap.size := (by omega)); (try have : w1.heap.size + 1 + 1 < w2.heap.size + 1 := (by omega)); (try have : w1.heap.size + 1 + 1 < w2.heap.size + 1 + 1 := (by omega))
    go_wp2
    go_ret
    exact ⟨rfl, by repeat (first | exact Below.refl _ _ | refine below_dN ?_ _ | refine Below.drew ?_ | refine Below.alloc ?_ (by first | omega | (simp; done) | (simp; omega)) _ | refine Below.setCell ?_ (by first | omega | (simp; done) | (simp; omega)) _ | refine below_step (by assumption) (by first | omega | (simp; done) | (simp; omega)) ?_)⟩
  have Ki : ∀ wx, Calls Try.prog 20 #[.iface 43 (.int .i64 3), .int .i64 3] wx fun e w' => e = .returned (.bool true) ∧ wx = w' := fun wx => is_any 3 3 wx (by decide)
  go_enter Try.func11, Try.ntmps11
  go_wp2_with fail; refine (k0 _).mono ?_; rintro e w1 ⟨rfl, hb1⟩; obtain ⟨hc1, hf1, hz1, hlt1, hle1⟩ := cellsIf hb1 (by (try simp); exact rfl); (try have : w.heap.size < w1.heap.size := (by omega)); (try have : w.heap.size < w1.heap.size + 1 := (by omega)); (try have : w.heap.size < w1.heap.size + 1 + 1 := (by omega)); (try have : w.heap.size + 1 < w1.heap.size := (by omega)); (try have : w.heap.size + 1 < w1.heap.size + 1 := (by omega)); (try have : w.heap.size + 1 < w1.heap.size + 1 + 1 := (by omega)); (try have : w.heap.size + 1 + 1 < w1.heap.size := (by omega)); (try have : w.heap.size + 1 + 1 < w1.heap.size + 1 := (by omega)); (try have : w.heap.size + 1 + 1 < w1.heap.size + 1 + 1 := (by omega))
  go_wp2_with fail; refine (facts_nil AS s.length cs _).mono ?_; rintro e w2 ⟨rfl, hb2⟩; obtain ⟨hc2, hf2, hz2, hlt2, hle2⟩ := cellsIf hb2 (by (try simp); exact rfl); (try have : w.heap.size < w2.heap.size := (by omega)); (try have : w.heap.size < w2.heap.size + 1 := (by omega)); (try have : w.heap.size < w2.heap.size + 1 + 1 := (by omega)); (try have : w.heap.size + 1 < w2.heap.size := (by omega)); (try have : w.heap.size + 1 < w2.heap.size + 1 := (by omega)); (try have : w.heap.size + 1 < w2.heap.size + 1 + 1 := (by omega)); (try have : w.heap.size + 1 + 1 < w2.heap.size := (by omega)); (try have : w.heap.size + 1 + 1 < w2.heap.size + 1 := (by omega)); (try have : w.heap.size + 1 + 1 < w2.heap.size + 1 + 1 := (by omega)); (try have : w1.heap.size < w2.heap.size := (by omega)); (try have : w1.heap.size < w2.heap.size + 1 := (by omega)); (try have : w1.heap.size < w2.heap.size + 1 + 1 := (by omega)); (try have : w1.heap.size + 1 < w2.heap.size := (by omega)); (try have : w1.heap.size + 1 < w2.heap.size + 1 := (by omega)); (try have : w1.heap.size + 1 < w2.heap.size + 1 + 1 := (by omega)); (try have : w1.heap.size + 1 + 1 < w2.heap.size := (by omega)); (try have : w1.heap.size + 1 + 1 < w2.heap.size + 1 := (by omega)); (try have : w1.heap.size + 1 + 1 < w2.heap.size + 1 + 1 := (by omega))
  go_wp2_with fail; refine (achievers_nil AS s.length cs 0 0 _).mono ?_; rintro e w3 ⟨rfl, hb3⟩; obtain ⟨hc3, hf3, hz3, hlt3, hle3⟩ := cellsIf hb3 (by (try simp); exact rfl); (try have : w.heap.size < w3.heap.size := (by omega)); (try have : w.heap.size < w3.heap.size + 1 := (by omega)); (try have : w.heap.size < w3.heap.size + 1 + 1 := (by omega)); (try have : w.heap.size + 1 < w3.heap.size := (by omega)); (try have : w.heap.size + 1 < w3.heap.size + 1 := (by omega)); (try have : w.heap.size + 1 < w3.heap.size + 1 + 1 := (by omega)); (try have : w.heap.size + 1 + 1 < w3.heap.size := (by omega)); (try have : w.heap.size + 1 + 1 < w3.heap.size + 1 := (by omega)); (try have : w.heap.size + 1 + 1 < w3.heap.size + 1 + 1 := (by omega)); (try have : w1.heap.size < w3.heap.size := (by omega)); (try have : w1.heap.size < w3.heap.size + 1 := (by omega)); (try have : w1.heap.size < w3.heap.size + 1 + 1 := (by omega)); (try have : w1.heap.size + 1 < w3.heap.size := (by omega)); (try have : w1.heap.size + 1 < w3.heap.size + 1 := (by omega)); (try have : w1.heap.size + 1 < w3.heap.size + 1 + 1 := (by omega)); (try have : w1.heap.size + 1 + 1 < w3.heap.size := (by omega)); (try have : w1.heap.size + 1 + 1 < w3.heap.size + 1 := (by omega)); (try have : w1.heap.size + 1 + 1 < w3.heap.size + 1 + 1 := (by omega)); (try have : w2.heap.size < w3.heap.size := (by omega)); (try have : w2.heap.size < w3.heap.size + 1 := (by omega)); (try have : w2.heap.size < w3.heap.size + 1 + 1 := (by omega)); (try have : w2.heap.size + 1 < w3.heap.size := (by omega)); (try have : w2.heap.size + 1 < w3.heap.size + 1 := (by omega)); (try have : w2.heap.size + 1 < w3.heap.size + 1 + 1 := (by omega)); (try have : w2.heap.size + 1 + 1 < w3.heap.size := (by omega)); (try have : w2.heap.size + 1 + 1 < w3.heap.size + 1 := (by omega)); (try have : w2.heap.size + 1 + 1 < w3.heap.size + 1 + 1 := (by omega))
  go_wp2_with fail; refine (cuts_nil AS s.length cs _).mono ?_; rintro e w4 ⟨rfl, hb4⟩; obtain ⟨hc4, hf4, hz4, hlt4, hle4⟩ := cellsIf hb4 (by (try simp); exact rfl); (try have : w.heap.size < w4.heap.size := (by omega)); (try have : w.heap.size < w4.heap.size + 1 := (by omega)); (try have : w.heap.size < w4.heap.size + 1 + 1 := (by omega)); (try have : w.heap.size + 1 < w4.heap.size := (by omega)); (try have : w.heap.size + 1 < w4.heap.size + 1 := (by omega)); (try have : w.heap.size + 1 < w4.heap.size + 1 + 1 := (by omega)); (try have : w.heap.size + 1 + 1 < w4.heap.size := (by omega)); (try have : w.heap.size + 1 + 1 < w4.heap.size + 1 := (by omega)); (try have : w.heap.size + 1 + 1 < w4.heap.size + 1 + 1 := (by omega)); (try have : w1.heap.size < w4.heap.size := (by omega)); (try have : w1.heap.size < w4.heap.size + 1 := (by omega)); (try have : w1.heap.size < w4.heap.size + 1 + 1 := (by omega)); (try have : w1.heap.size + 1 < w4.heap.size := (by omega)); (try have : w1.heap.size + 1 < w4.heap.size + 1 := (by omega)); (try have : w1.heap.size + 1 < w4.heap.size + 1 + 1 := (by omega)); (try have : w1.heap.size + 1 + 1 < w4.heap.size := (by omega)); (try have : w1.heap.size + 1 + 1 < w4.heap.size + 1 := (by omega)); (try have : w1.heap.size + 1 + 1 < w4.heap.size + 1 + 1 := (by omega)); (try have : w2.heap.size < w4.heap.size := (by omega)); (try have : w2.heap.size < w4.heap.size + 1 := (by omega)); (try have : w2.heap.size < w4.heap.size + 1 + 1 := (by omega)); (try have : w2.heap.size + 1 < w4.heap.size := (by omega)); (try have : w2.heap.size + 1 < w4.heap.size + 1 := (by omega)); (try have : w2.heap.size + 1 < w4.heap.size + 1 + 1 := (by omega)); (try have : w2.heap.size + 1 + 1 < w4.heap.size := (by omega)); (try have : w2.heap.size + 1 + 1 < w4.heap.size + 1 := (by omega)); (try have : w2.heap.size + 1 + 1 < w4.heap.size + 1 + 1 := (by omega)); (try have : w3.heap.size < w4.heap.size := (by omega)); (try have : w3.heap.size < w4.heap.size + 1 := (by omega)); (try have : w3.heap.size < w4.heap.size + 1 + 1 := (by omega)); (try have : w3.heap.size + 1 < w4.heap.size := (by omega)); (try have : w3.heap.size + 1 < w4.heap.size + 1 := (by omega)); (try have : w3.heap.size + 1 < w4.heap.size + 1 + 1 := (by omega)); (try have : w3.heap.size + 1 + 1 < w4.heap.size := (by omega)); (try have : w3.heap.size + 1 + 1 < w4.heap.size + 1 := (by omega)); (try have : w3.heap.size + 1 + 1 < w4.heap.size + 1 + 1 := (by omega))
  go_wp2_with fail; refine (orders_nil AS s.length cs _).mono ?_; rintro e w5 ⟨rfl, hb5⟩; obtain ⟨hc5, hf5, hz5, hlt5, hle5⟩ := cellsIf hb5 (by (try simp); exact rfl); (try have : w.heap.size < w5.heap.size := (by omega)); (try have : w.heap.size < w5.heap.size + 1 := (by omega)); (try have : w.heap.size < w5.heap.size + 1 + 1 := (by omega)); (try have : w.heap.size + 1 < w5.heap.size := (by omega)); (try have : w.heap.size + 1 < w5.heap.size + 1 := (by omega)); (try have : w.heap.size + 1 < w5.heap.size + 1 + 1 := (by omega)); (try have : w.heap.size + 1 + 1 < w5.heap.size := (by omega)); (try have : w.heap.size + 1 + 1 < w5.heap.size + 1 := (by omega)); (try have : w.heap.size + 1 + 1 < w5.heap.size + 1 + 1 := (by omega)); (try have : w1.heap.size < w5.heap.size := (by omega)); (try have : w1.heap.size < w5.heap.size + 1 := (by omega)); (try have : w1.heap.size < w5.heap.size + 1 + 1 := (by omega)); (try have : w1.heap.size + 1 < w5.heap.size := (by omega)); (try have : w1.heap.size + 1 < w5.heap.size + 1 := (by omega)); (try have : w1.heap.size + 1 < w5.heap.size + 1 + 1 := (by omega)); (try have : w1.heap.size + 1 + 1 < w5.heap.size := (by omega)); (try have : w1.heap.size + 1 + 1 < w5.heap.size + 1 := (by omega)); (try have : w1.heap.size + 1 + 1 < w5.heap.size + 1 + 1 := (by omega)); (try have : w2.heap.size < w5.heap.size := (by omega)); (try have : w2.heap.size < w5.heap.size + 1 := (by omega)); (try have : w2.heap.size < w5.heap.size + 1 + 1 := (by omega)); (try have : w2.heap.size + 1 < w5.heap.size := (by omega)); (try have : w2.heap.size + 1 < w5.heap.size + 1 := (by omega)); (try have : w2.heap.size + 1 < w5.heap.size + 1 + 1 := (by omega)); (try have : w2.heap.size + 1 + 1 < w5.heap.size := (by omega)); (try have : w2.heap.size + 1 + 1 < w5.heap.size + 1 := (by omega)); (try have : w2.heap.size + 1 + 1 < w5.heap.size + 1 + 1 := (by omega)); (try have : w3.heap.size < w5.heap.size := (by omega)); (try have : w3.heap.size < w5.heap.size + 1 := (by omega)); (try have : w3.heap.size < w5.heap.size + 1 + 1 := (by omega)); (try have : w3.heap.size + 1 < w5.heap.size := (by omega)); (try have : w3.heap.size + 1 < w5.heap.size + 1 := (by omega)); (try have : w3.heap.size + 1 < w5.heap.size + 1 + 1 := (by omega)); (try have : w3.heap.size + 1 + 1 < w5.heap.size := (by omega)); (try have : w3.heap.size + 1 + 1 < w5.heap.size + 1 := (by omega)); (try have : w3.heap.size + 1 + 1 < w5.heap.size + 1 + 1 := (by omega)); (try have : w4.heap.size < w5.heap.size := (by omega)); (try have : w4.heap.size < w5.heap.size + 1 := (by omega)); (try have : w4.heap.size < w5.heap.size + 1 + 1 := (by omega)); (try have : w4.heap.size + 1 < w5.heap.size := (by omega)); (try have : w4.heap.size + 1 < w5.heap.size + 1 := (by omega)); (try have : w4.heap.size + 1 < w5.heap.size + 1 + 1 := (by omega)); (try have : w4.heap.size + 1 + 1 < w5.heap.size := (by omega)); (try have : w4.heap.size + 1 + 1 < w5.heap.size + 1 := (by omega)); (try have : w4.heap.size + 1 + 1 < w5.heap.size + 1 + 1 := (by omega))
  go_wp2_with fail
  refine (Ki _).mono ?_
  rintro e wx ⟨rfl, rfl⟩
  go_wp2_with fail
  refine (Ki _).mono ?_
  rintro e wx ⟨rfl, rfl⟩
  go_wp2_with fail
  refine (Ki _).mono ?_
  rintro e wx ⟨rfl, rfl⟩
  go_wp2_with fail
  refine (Ki _).mono ?_
  rintro e wx ⟨rfl, rfl⟩
  go_wp2_with fail; refine (before_nil AS s.length cs 0 0 0 1 _).mono ?_; rintro e w6 ⟨rfl, hb6⟩; obtain ⟨hc6, hf6, hz6, hlt6, hle6⟩ := cellsIf hb6 (by (try simp); exact rfl); (try have : w.heap.size < w6.heap.size := (by omega)); (try have : w.heap.size < w6.heap.size + 1 := (by omega)); (try have : w.heap.size < w6.heap.size + 1 + 1 := (by omega)); (try have : w.heap.size + 1 < w6.heap.size := (by omega)); (try have : w.heap.size + 1 < w6.heap.size + 1 := (by omega)); (try have : w.heap.size + 1 < w6.heap.size + 1 + 1 := (by omega)); (try have : w.heap.size + 1 + 1 < w6.heap.size := (by omega)); (try have : w.heap.size + 1 + 1 < w6.heap.size + 1 := (by omega)); (try have : w.heap.size + 1 + 1 < w6.heap.size + 1 + 1 := (by omega)); (try have : w1.heap.size < w6.heap.size := (by omega)); (try have : w1.heap.size < w6.heap.size + 1 := (by omega)); (try have : w1.heap.size < w6.heap.size + 1 + 1 := (by omega)); (try have : w1.heap.size + 1 < w6.heap.size := (by omega)); (try have : w1.heap.size + 1 < w6.heap.size + 1 := (by omega)); (try have : w1.heap.size + 1 < w6.heap.size + 1 + 1 := (by omega)); (try have : w1.heap.size + 1 + 1 < w6.heap.size := (by omega)); (try have : w1.heap.size + 1 + 1 < w6.heap.size + 1 := (by omega)); (try have : w1.heap.size + 1 + 1 < w6.heap.size + 1 + 1 := (by omega)); (try have : w2.heap.size < w6.heap.size := (by omega)); (try have : w2.heap.size < w6.heap.size + 1 := (by omega)); (try have : w2.heap.size < w6.heap.size + 1 + 1 := (by omega)); (try have : w2.heap.size + 1 < w6.heap.size := (by omega)); (try have : w2.heap.size + 1 < w6.heap.size + 1 := (by omega)); (try have : w2.heap.size + 1 < w6.heap.size + 1 + 1 := (by omega)); (try have : w2.heap.size + 1 + 1 < w6.heap.size := (by omega)); (try have : w2.heap.size + 1 + 1 < w6.heap.size + 1 := (by omega)); (try have : w2.heap.size + 1 + 1 < w6.heap.size + 1 + 1 := (by omega)); (try have : w3.heap.size < w6.heap.size := (by omega)); (try have : w3.heap.size < w6.heap.size + 1 := (by omega)); (try have : w3.heap.size < w6.heap.size + 1 + 1 := (by omega)); (try have : w3.heap.size + 1 < w6.heap.size := (by omega)); (try have : w3.heap.size + 1 < w6.heap.size + 1 := (by omega)); (try have : w3.heap.size + 1 < w6.heap.size + 1 + 1 := (by omega)); (try have : w3.heap.size + 1 + 1 < w6.heap.size := (by omega)); (try have : w3.heap.size + 1 + 1 < w6.heap.size + 1 := (by omega)); (try have : w3.heap.size + 1 + 1 < w6.heap.size + 1 + 1 := (by omega)); (try have : w4.heap.size < w6.heap.size := (by omega)); (try have : w4.heap.size < w6.heap.size + 1 := (by omega)); (try have : w4.heap.size < w6.heap.size + 1 + 1 := (by omega)); (try have : w4.heap.size + 1 < w6.heap.size := (by omega)); (try have : w4.heap.size + 1 < w6.heap.size + 1 := (by omega)); (try have : w4.heap.size + 1 < w6.heap.size + 1 + 1 := (by omega)); (try have : w4.heap.size + 1 + 1 < w6.heap.size := (by omega)); (try have : w4.heap.size + 1 + 1 < w6.heap.size + 1 := (by omega)); (try have : w4.heap.size + 1 + 1 < w6.heap.size + 1 + 1 := (by omega)); (try have : w5.heap.size < w6.heap.size := (by omega)); (try have : w5.heap.size < w6.heap.size + 1 := (by omega)); (try have : w5.heap.size < w6.heap.size + 1 + 1 := (by omega)); (try have : w5.heap.size + 1 < w6.heap.size := (by omega)); (try have : w5.heap.size + 1 < w6.heap.size + 1 := (by omega)); (try have : w5.heap.size + 1 < w6.heap.size + 1 + 1 := (by omega)); (try have : w5.heap.size + 1 + 1 < w6.heap.size := (by omega)); (try have : w5.heap.size + 1 + 1 < w6.heap.size + 1 := (by omega)); (try have : w5.heap.size + 1 + 1 < w6.heap.size + 1 + 1 := (by omega))
  have hbx6 : Boxed w6 w.heap.size t ⟨av, ai, ag, ao, cv, ci, cg, co⟩ := by
    have h0 : Boxed (w.alloc (.cells #[.slice av t.vars.length cv, .slice ai t.init.length ci, .slice ag t.goal.length cg, .slice ao t.ops.length co] 26)) w.heap.size t ⟨av, ai, ag, ao, cv, ci, cg, co⟩ := by constructor <;> simp
    exact (((((h0.up hb1).up hb2).up hb3).up hb4).up hb5).up hb6
  have hbw6 : Below w.heap.size w w6 := by repeat (first | exact Below.refl _ _ | refine below_dN ?_ _ | refine Below.drew ?_ | refine Below.alloc ?_ (by first | omega | (simp; done) | (simp; omega)) _ | refine Below.setCell ?_ (by first | omega | (simp; done) | (simp; omega)) _ | refine below_step (by assumption) (by first | omega | (simp; done) | (simp; omega)) ?_)
  have z6 := hbw6.size
  clear hc1 hc2 hc3 hc4 hc5 hc6 hf1 hf2 hf3 hf4 hf5 hf6 hz1 hz2 hz3 hz4 hz5 hz6 hlt1 hlt2 hlt3 hlt4 hlt5 hlt6 hle1 hle2 hle3 hle4 hle5 hle6 hb1 hb2 hb3 hb4 hb5 hb6 k0 Ki q1 q2 q3
  obtain ⟨z0, y0, y1, y2, y3⟩ := id hbx6
  dsimp only at y0 y1 y2 y3
  cases e1 : goT t
  · have hne : chkC t ≠ 0 := fun h => by rw [(goT_chk t).2 h] at e1; cases e1
    have K3' := Lib.hid (fun w1 hb => K3.out w1 hne hb)
    rw [e1] at K4
    clear hne K1 K2 K3 e1
    go_wp2_with fail
    refine (K3'.out _ hbw6).mono ?_
    rintro e w7 ⟨rfl, hb7⟩
    have hbw7 := hbw6.trans (hb7.mono z6)
    have hbx7 := hbx6.up hb7
    clear z0 y0 y1 y2 y3
    obtain ⟨z0, y0, y1, y2, y3⟩ := id hbx7
    dsimp only at y0 y1 y2 y3
    go_wp2_with fail
    refine (K4.out _ hbw7).mono ?_
    rintro e w8 ⟨rfl, hb8⟩
    go_wp2
    go_ret
    exact ⟨rfl, hbw7.trans (hb8.mono hbw7.size)⟩
  have hchk := (goT_chk t).1 e1
  have hr := right_of hchk
  have K2' := Lib.hid (fun w1 hb => K2.out w1 hchk hb)
  have KF := Lib.hid (fun q G wx (hF : FindAt wx G t q) (hs : IntsAt wx wx.heap.size AS s) => lfacts_any t q G s AS cs wx hF hs hr)
  have HR := Lib.hid hr
  rw [e1] at K4
  clear K2 K3 e1 hchk hr
  go_wp2_with fail
  refine (K2'.out _ hbw6).mono ?_
  rintro e w7 ⟨⟨G, q, rfl, hF⟩, hb7⟩
  have hbw7 := hbw6.trans (hb7.mono z6)
  have hbx7 := hbx6.up hb7
  have z7 := hbw7.size
  clear z0 y0 y1 y2 y3 hbx6 hb7
  obtain ⟨z0, y0, y1, y2, y3⟩ := id hbx7
  dsimp only at y0 y1 y2 y3
  go_wp2_with fail
  refine (K4.out _ hbw7).mono ?_
  rintro e w8 ⟨rfl, hb8⟩
  have hbw8 := hbw7.trans (hb8.mono z7)
  have hbx8 := hbx7.up hb8
  have z8 := hbw8.size
  have hF8 := hF.up hb8
  clear z0 y0 y1 y2 y3 hbx7 hb8 hF
  obtain ⟨z0, y0, y1, y2, y3⟩ := id hbx8
  dsimp only at y0 y1 y2 y3
  go_wp2_with fail
  refine (K1.out _ hbw8).mono ?_
  rintro e w9 ⟨rfl, hb9⟩
  have hbw9 := hbw8.trans (hb9.mono z8)
  have hbx9 := hbx8.up hb9
  have z9 := hbw9.size
  have hF9 := hF8.up hb9
  clear z0 y0 y1 y2 y3 hbx8 hb9 hF8
  obtain ⟨z0, y0, y1, y2, y3⟩ := id hbx9
  dsimp only at y0 y1 y2 y3
  cases e2 : smB t
  · go_wp2
    go_ret
    exact ⟨rfl, hbw9⟩
  go_wp2_with fail
  refine (KF.out q G _ hF9 (hs.up hbw9)).mono ?_
  rintro e wa ⟨⟨va, rfl, hva⟩, hba⟩
  have hbwa := hbw9.trans (hba.mono z9)
  have hbxa := hbx9.up hba
  have za := hbwa.size
  clear z0 y0 y1 y2 y3 hbx9 hba hF9
  obtain ⟨z0, y0, y1, y2, y3⟩ := id hbxa
  dsimp only at y0 y1 y2 y3
  by_cases e3 : lmC t s = 0
  case neg =>
    have hl : lmL t s = [] := by unfold lmL; rw [if_neg e3]
    rw [hl] at hva
    obtain ⟨A, c, rfl, _, _⟩ := hva
    have he : erV (lmC t s) = .iface 43 (.int .i64 (lmC t s)) := by unfold erV; rw [if_neg e3]
    rw [he]
    simp only [List.length_nil]
    go_wp2
    go_ret
    exact ⟨rfl, hbwa⟩
  have hst : stB t.vars s = true := by
    cases h : stB t.vars s with
    | true => rfl
    | false => exfalso; unfold lmC at e3; rw [h] at e3; simp at e3
  rw [e3, erV_0]
  have hl : lmL t s = lmks t s := by unfold lmL; rw [if_pos e3]
  rw [hl] at hva
  obtain ⟨A, c, rfl, _, hf⟩ := hva
  have Hin := Lib.hid (fun i hi hn => goal_lm HR.out hst (i := i) hi hn)
  have Hno := Lib.hid (fun hg => goal_no (s := s) HR.out hg)
  obtain ⟨F, hFe⟩ : ∃ F, F = lmks t s := ⟨_, rfl⟩
  rw [← hFe] at hf Hin Hno
  rw [← hFe]
  have HF := Lib.hid hf
  have lF := hf.len
  have Hsl := Lib.hid (stB_len hst)
  have Hgo := Lib.hid (fun k (hk : k < t.goal.length) => fa_at HR.out.goal hk)
  clear hf hFe hl e3 hst KF K1 K4 K2' e2
  go_wp2
  go_loopw [17, 130] (fun v i wr => ∃ k : Nat, k ≤ t.goal.length ∧ i = .int .i64 k ∧ v = .bool (gB t s k) ∧ Below wa.heap.size wa wr) (fun _ i _ => t.goal.length - (intOf i).toNat)
  case atStart => exact ⟨0, by omega, rfl, rfl, Below.refl _ _⟩
  case round =>
    clear z0 y0 y1 y2 y3
    obtain ⟨k, hk, rfl, rfl, hbel⟩ := hrel
    have hbz := hbel.size
    have hbwr : Below w.heap.size w wr := hbwa.trans (hbel.mono za)
    obtain ⟨z0, y0, y1, y2, y3⟩ := id (hbxa.up hbel)
    dsimp only at y0 y1 y2 y3
    by_cases hlt : k < t.goal.length
    · obtain ⟨b1, o1, ea, hb1, hc1⟩ := ht.goal.at_ hlt
      dsimp only at ea
      subst ea
      have d1 := (hbwr.cell (p := ⟨b1, o1 + k * 2, none⟩) hb1).trans (hc1 k hlt).1
      have d2 := (hbwr.cell (p := ⟨b1, o1 + k * 2 + 1, none⟩) hb1).trans (hc1 k hlt).2
      have hbwz := hbwr.size
      have g1 : b1 < wr.heap.size := by omega
      have hgk := Hgo.out k hlt
      obtain ⟨v, hv⟩ : ∃ v : Nat, fv t.goal k = (v : Int) := ⟨(fv t.goal k).toNat, by omega⟩
      obtain ⟨x, hx⟩ : ∃ x : Int, fx t.goal k = x := ⟨_, rfl⟩
      have hvn : v < s.length := by have := Hsl.out; omega
      obtain ⟨b2, o2, eb, hb2, hc2⟩ := hs.at_ hvn
      subst eb
      have d3 := (hbwr.cell (p := ⟨b2, o2 + v, none⟩) hb2).trans (hc2 v hvn)
      have g2 : b2 < wr.heap.size := by omega
      have hgs : gB t s (k + 1) = (gB t s k && decide (nth s v = x)) := by
        unfold gB
        rw [anyB_succ, hv, hx]
        simp
      have Hgs := Lib.hid hgs
      have Hin2 := Lib.hid (fun hn => Hin.out k hlt (by rw [hv, hx]; simpa using hn))
      have hfk : fac t.goal k = ((v : Int), x) := by unfold fac; rw [hv, hx]
      rw [hfk] at Hin2
      rw [hv] at d1
      rw [hx] at d2
      have k0 : (0 : Int) ≤ (k : Int) := by omega
      have k1 : (k : Int) < (t.goal.length : Int) := by omega
      have v0 : (0 : Int) ≤ (v : Int) := by omega
      have v1 : (v : Int) < (s.length : Int) := by omega
      clear hc1 hc2 hgk hv hx hgs hfk
      obtain ⟨y, hy⟩ : ∃ y, nth s v = y := ⟨_, rfl⟩
      rw [hy] at d3 Hgs Hin2
      clear hy
      obtain ⟨wt, rfl⟩ : ∃ wt : World, wt = wr := ⟨_, rfl⟩
      by_cases e5 : y = x
      · have Hg := Lib.hid (show gB t s (k + 1) = gB t s k by rw [Hgs.out, e5]; simp)
        subst e5
        go_wp2_with fail
        refine wp_region_aft (by kernel_rfl) (by kernel_rfl) (by (try simp); exact rfl) ?_; intro haft; (repeat (go_big_quiet_step (fail))); refine wpQuiet_nil ?_; intro w7 hwx; have hb7 := aft_below hwx; clear hwx; obtain ⟨hc7, hf7, hz7, hlt7, hle7⟩ := cellsIf hb7 (by (try simp); exact rfl); (try have : w.heap.size < w7.heap.size := (by omega)); (try have : w.heap.size < w7.heap.size + 1 := (by omega)); (try have : w.heap.size < w7.heap.size + 1 + 1 := (by omega)); (try have : w.heap.size + 1 < w7.heap.size := (by omega)); (try have : w.heap.size + 1 < w7.heap.size + 1 := (by omega)); (try have : w.heap.size + 1 < w7.heap.size + 1 + 1 := (by omega)); (try have : w.heap.size + 1 + 1 < w7.heap.size := (by omega)); (try have : w.heap.size + 1 + 1 < w7.heap.size + 1 := (by omega)); (try have : w.heap.size + 1 + 1 < w7.heap.size + 1 + 1 := (by omega)); (try have : w1.heap.size < w7.heap.size := (by omega)); (try have : w1.heap.size < w7.heap.size + 1 := (by omega)); (try have : w1.heap.size < w7.heap.size + 1 + 1 := (by omega)); (try have : w1.heap.size + 1 < w7.heap.size := (by omega)); (try have : w1.heap.size + 1 < w7.heap.size + 1 := (by omega)); (try have : w1.heap.size + 1 < w7.heap.size + 1 + 1 := (by omega)); (try have : w1.heap.size + 1 + 1 < w7.heap.size := (by omega)); (try have : w1.heap.size + 1 + 1 < w7.heap.size + 1 := (by omega)); (try have : w1.heap.size + 1 + 1 < w7.heap.size + 1 + 1 := (by omega)); (try have : w2.heap.size < w7.heap.size := (by omega)); (try have : w2.heap.size < w7.heap.size + 1 := (by omega)); (try have : w2.heap.size < w7.heap.size + 1 + 1 := (by omega)); (try have : w2.heap.size + 1 < w7.heap.size := (by omega)); (try have : w2.heap.size + 1 < w7.heap.size + 1 := (by omega)); (try have : w2.heap.size + 1 < w7.heap.size + 1 + 1 := (by omega)); (try have : w2.heap.size + 1 + 1 < w7.heap.size := (by omega)); (try have : w2.heap.size + 1 + 1 < w7.heap.size + 1 := (by omega)); (try have : w2.heap.size + 1 + 1 < w7.heap.size + 1 + 1 := (by omega)); (try have : w3.heap.size < w7.heap.size := (by omega)); (try have : w3.heap.size < w7.heap.size + 1 := (by omega)); (try have : w3.heap.size < w7.heap.size + 1 + 1 := (by omega)); (try have : w3.heap.size + 1 < w7.heap.size := (by omega)); (try have : w3.heap.size + 1 < w7.heap.size + 1 := (by omega)); (try have : w3.heap.size + 1 < w7.heap.size + 1 + 1 := (by omega)); (try have : w3.heap.size + 1 + 1 < w7.heap.size := (by omega)); (try have : w3.heap.size + 1 + 1 < w7.heap.size + 1 := (by omega)); (try have : w3.heap.size + 1 + 1 < w7.heap.size + 1 + 1 := (by omega)); (try have : w4.heap.size < w7.heap.size := (by omega)); (try have : w4.heap.size < w7.heap.size + 1 := (by omega)); (try have : w4.heap.size < w7.heap.size + 1 + 1 := (by omega)); (try have : w4.heap.size + 1 < w7.heap.size := (by omega)); (try have : w4.heap.size + 1 < w7.heap.size + 1 := (by omega)); (try have : w4.heap.size + 1 < w7.heap.size + 1 + 1 := (by omega)); (try have : w4.heap.size + 1 + 1 < w7.heap.size := (by omega)); (try have : w4.heap.size + 1 + 1 < w7.heap.size + 1 := (by omega)); (try have : w4.heap.size + 1 + 1 < w7.heap.size + 1 + 1 := (by omega)); (try have : w5.heap.size < w7.heap.size := (by omega)); (try have : w5.heap.size < w7.heap.size + 1 := (by omega)); (try have : w5.heap.size < w7.heap.size + 1 + 1 := (by omega)); (try have : w5.heap.size + 1 < w7.heap.size := (by omega)); (try have : w5.heap.size + 1 < w7.heap.size + 1 := (by omega)); (try have : w5.heap.size + 1 < w7.heap.size + 1 + 1 := (by omega)); (try have : w5.heap.size + 1 + 1 < w7.heap.size := (by omega)); (try have : w5.heap.size + 1 + 1 < w7.heap.size + 1 := (by omega)); (try have : w5.heap.size + 1 + 1 < w7.heap.size + 1 + 1 := (by omega)); (try have : w6.heap.size < w7.heap.size := (by omega)); (try have : w6.heap.size < w7.heap.size + 1 := (by omega)); (try have : w6.heap.size < w7.heap.size + 1 + 1 := (by omega)); (try have : w6.heap.size + 1 < w7.heap.size := (by omega)); (try have : w6.heap.size + 1 < w7.heap.size + 1 := (by omega)); (try have : w6.heap.size + 1 < w7.heap.size + 1 + 1 := (by omega)); (try have : w6.heap.size + 1 + 1 < w7.heap.size := (by omega)); (try have : w6.heap.size + 1 + 1 < w7.heap.size + 1 := (by omega)); (try have : w6.heap.size + 1 + 1 < w7.heap.size + 1 + 1 := (by omega)); clear haft
        go_wp2
        go_roundw
        case rel => exact ⟨k + 1, by omega, by go_num, by rw [Hg.out], hbel.trans ((((Below.refl _ _).alloc (Nat.le_refl _) _).trans (hb7.mono (by simp))).mono hbz)⟩
        case measure => simp [intOf]; omega
      · have Hg := Lib.hid (show gB t s (k + 1) = false by rw [Hgs.out]; simp [e5])
        have e6 : decide (y = x) = false := by simpa using e5
        have h4 : ¬ x = y := fun e => e5 e.symm
        have h5 : (y == x) = false := by simpa using e5
        have heql : ∀ w, (binOp .eql 3 (.int .i64 y) (.int .i64 x)).run Try.prog w = .ok (.bool false) w := by intro w; simp [go_sem, e5]
        have Hmem := Lib.hid (Hin2.out e5)
        go_wp2_with fail
        refine wp_region_aft (by kernel_rfl) (by kernel_rfl) (by (try simp); exact rfl) ?_; intro haft; (repeat (go_big_quiet_step (fail))); refine wpQuiet_nil ?_; intro w7 hwx; have hb7 := aft_below hwx; clear hwx; obtain ⟨hc7, hf7, hz7, hlt7, hle7⟩ := cellsIf hb7 (by (try simp); exact rfl); (try have : w.heap.size < w7.heap.size := (by omega)); (try have : w.heap.size < w7.heap.size + 1 := (by omega)); (try have : w.heap.size < w7.heap.size + 1 + 1 := (by omega)); (try have : w.heap.size + 1 < w7.heap.size := (by omega)); (try have : w.heap.size + 1 < w7.heap.size + 1 := (by omega)); (try have : w.heap.size + 1 < w7.heap.size + 1 + 1 := (by omega)); (try have : w.heap.size + 1 + 1 < w7.heap.size := (by omega)); (try have : w.heap.size + 1 + 1 < w7.heap.size + 1 := (by omega)); (try have : w.heap.size + 1 + 1 < w7.heap.size + 1 + 1 := (by omega)); (try have : w1.heap.size < w7.heap.size := (by omega)); (try have : w1.heap.size < w7.heap.size + 1 := (by omega)); (try have : w1.heap.size < w7.heap.size + 1 + 1 := (by omega)); (try have : w1.heap.size + 1 < w7.heap.size := (by omega)); (try have : w1.heap.size + 1 < w7.heap.size + 1 := (by omega)); (try have : w1.heap.size + 1 < w7.heap.size + 1 + 1 := (by omega)); (try have : w1.heap.size + 1 + 1 < w7.heap.size := (by omega)); (try have : w1.heap.size + 1 + 1 < w7.heap.size + 1 := (by omega)); (try have : w1.heap.size + 1 + 1 < w7.heap.size + 1 + 1 := (by omega)); (try have : w2.heap.size < w7.heap.size := (by omega)); (try have : w2.heap.size < w7.heap.size + 1 := (by omega)); (try have : w2.heap.size < w7.heap.size + 1 + 1 := (by omega)); (try have : w2.heap.size + 1 < w7.heap.size := (by omega)); (try have : w2.heap.size + 1 < w7.heap.size + 1 := (by omega)); (try have : w2.heap.size + 1 < w7.heap.size + 1 + 1 := (by omega)); (try have : w2.heap.size + 1 + 1 < w7.heap.size := (by omega)); (try have : w2.heap.size + 1 + 1 < w7.heap.size + 1 := (by omega)); (try have : w2.heap.size + 1 + 1 < w7.heap.size + 1 + 1 := (by omega)); (try have : w3.heap.size < w7.heap.size := (by omega)); (try have : w3.heap.size < w7.heap.size + 1 := (by omega)); (try have : w3.heap.size < w7.heap.size + 1 + 1 := (by omega)); (try have : w3.heap.size + 1 < w7.heap.size := (by omega)); (try have : w3.heap.size + 1 < w7.heap.size + 1 := (by omega)); (try have : w3.heap.size + 1 < w7.heap.size + 1 + 1 := (by omega)); (try have : w3.heap.size + 1 + 1 < w7.heap.size := (by omega)); (try have : w3.heap.size + 1 + 1 < w7.heap.size + 1 := (by omega)); (try have : w3.heap.size + 1 + 1 < w7.heap.size + 1 + 1 := (by omega)); (try have : w4.heap.size < w7.heap.size := (by omega)); (try have : w4.heap.size < w7.heap.size + 1 := (by omega)); (try have : w4.heap.size < w7.heap.size + 1 + 1 := (by omega)); (try have : w4.heap.size + 1 < w7.heap.size := (by omega)); (try have : w4.heap.size + 1 < w7.heap.size + 1 := (by omega)); (try have : w4.heap.size + 1 < w7.heap.size + 1 + 1 := (by omega)); (try have : w4.heap.size + 1 + 1 < w7.heap.size := (by omega)); (try have : w4.heap.size + 1 + 1 < w7.heap.size + 1 := (by omega)); (try have : w4.heap.size + 1 + 1 < w7.heap.size + 1 + 1 := (by omega)); (try have : w5.heap.size < w7.heap.size := (by omega)); (try have : w5.heap.size < w7.heap.size + 1 := (by omega)); (try have : w5.heap.size < w7.heap.size + 1 + 1 := (by omega)); (try have : w5.heap.size + 1 < w7.heap.size := (by omega)); (try have : w5.heap.size + 1 < w7.heap.size + 1 := (by omega)); (try have : w5.heap.size + 1 < w7.heap.size + 1 + 1 := (by omega)); (try have : w5.heap.size + 1 + 1 < w7.heap.size := (by omega)); (try have : w5.heap.size + 1 + 1 < w7.heap.size + 1 := (by omega)); (try have : w5.heap.size + 1 + 1 < w7.heap.size + 1 + 1 := (by omega)); (try have : w6.heap.size < w7.heap.size := (by omega)); (try have : w6.heap.size < w7.heap.size + 1 := (by omega)); (try have : w6.heap.size < w7.heap.size + 1 + 1 := (by omega)); (try have : w6.heap.size + 1 < w7.heap.size := (by omega)); (try have : w6.heap.size + 1 < w7.heap.size + 1 := (by omega)); (try have : w6.heap.size + 1 < w7.heap.size + 1 + 1 := (by omega)); (try have : w6.heap.size + 1 + 1 < w7.heap.size := (by omega)); (try have : w6.heap.size + 1 + 1 < w7.heap.size + 1 := (by omega)); (try have : w6.heap.size + 1 + 1 < w7.heap.size + 1 + 1 := (by omega)); clear haft
        have s0 : w7.cell? ⟨wt.heap.size, 0, none⟩ = some (.int .i64 (v : Int)) := (hb7.cell (p := ⟨wt.heap.size, 0, none⟩) (by simp)).trans (by simp)
        have s1 : w7.cell? ⟨wt.heap.size, 1, none⟩ = some (.int .i64 x) := (hb7.cell (p := ⟨wt.heap.size, 1, none⟩) (by simp)).trans (by simp)
        have z7' := hb7.size
        simp only [World.size_alloc] at z7'
        have hb77 : Below wa.heap.size wa w7 := hbel.trans ((((Below.refl _ _).alloc (Nat.le_refl _) _).trans (hb7.mono (by simp))).mono hbz)
        go_wp2
        go_loopw [20, 144] (fun u i wx => ∃ j : Nat, j ≤ F.length ∧ i = .int .i64 j ∧ u = .bool (anyB j fun i => decide (fac F i = ((v : Int), x))) ∧ Below w7.heap.size w7 wx) (fun _ i _ => F.length - (intOf i).toNat)
        case atStart => exact ⟨0, by omega, rfl, rfl, Below.refl _ _⟩
        case round =>
          obtain ⟨j, hj, rfl, rfl, hbx⟩ := hrel
          have hbxz := hbx.size
          by_cases hltj : j < F.length
          · obtain ⟨b3, o3, ec, hb3, hc3⟩ := HF.out.at_ hltj
            subst ec
            have hbax := hb77.trans (hbx.mono hb77.size)
            have d4 := (hbax.cell (p := ⟨b3, o3 + j * 2, none⟩) hb3).trans (hc3 j hltj).1
            have d5 := (hbax.cell (p := ⟨b3, o3 + j * 2 + 1, none⟩) hb3).trans (hc3 j hltj).2
            have g3 : b3 < wr.heap.size := by have := hbax.size; omega
            have t0 := (hbx.cell (p := ⟨wt.heap.size, 0, none⟩) (by show wt.heap.size < _; omega)).trans s0
            have t1 := (hbx.cell (p := ⟨wt.heap.size, 1, none⟩) (by show wt.heap.size < _; omega)).trans s1
            have gt : wt.heap.size < wr.heap.size := by omega
            have j0 : (0 : Int) ≤ (j : Int) := by omega
            have j1 : (j : Int) < (F.length : Int) := by omega
            have Hsu := Lib.hid (anyB_succ j fun i => decide (fac F i = ((v : Int), x)))
            obtain ⟨p1, hp1⟩ : ∃ a, fv F j = a := ⟨_, rfl⟩
            obtain ⟨p2, hp2⟩ : ∃ a, fx F j = a := ⟨_, rfl⟩
            have hfj : fac F j = (p1, p2) := by unfold fac; rw [hp1, hp2]
            rw [hp1] at d4
            rw [hp2] at d5
            rw [hfj] at Hsu
            clear hc3 hp1 hp2 hfj
            cases e9 : anyB j fun i => decide (fac F i = ((v : Int), x))
            · rw [e9] at Hsu
              by_cases e8 : p1 = (v : Int) ∧ p2 = x
              · have Hr := Lib.hid (show (anyB (j + 1) fun i => decide (fac F i = ((v : Int), x))) = true by rw [Hsu.out, e8.1, e8.2]; simp)
                have heq2 : ∀ w, (binOp .eql 48 (.agg #[.int .i64 p1, .int .i64 p2]) (.agg #[.int .i64 (v : Int), .int .i64 x])).run Try.prog w = .ok (.bool true) w := by intro w; simp [go_sem, e8.1, e8.2]
                clear e8
                go_wp2
                go_roundw
                case rel => exact ⟨j + 1, by omega, by go_num, by rw [Hr.out], by first | exact hbx.alloc hbxz _ | exact (hbx.alloc hbxz _).drew | exact below_dN (hbx.alloc hbxz _) _⟩
                case measure => simp [intOf]; omega
              · have Hr := Lib.hid (show (anyB (j + 1) fun i => decide (fac F i = ((v : Int), x))) = false by rw [Hsu.out, Bool.false_or, decide_eq_false_iff_not]; exact fun e => e8 ⟨congrArg Prod.fst e, congrArg Prod.snd e⟩)
                have heq2 : ∀ w, (binOp .eql 48 (.agg #[.int .i64 p1, .int .i64 p2]) (.agg #[.int .i64 (v : Int), .int .i64 x])).run Try.prog w = .ok (.bool false) w := by intro w; simp [go_sem]; omega
                clear e8
                go_wp2
                go_roundw
                case rel => exact ⟨j + 1, by omega, by go_num, by rw [Hr.out], by first | exact hbx.alloc hbxz _ | exact (hbx.alloc hbxz _).drew | exact below_dN (hbx.alloc hbxz _) _⟩
                case measure => simp [intOf]; omega
            · rw [e9] at Hsu
              have Hr := Lib.hid (show (anyB (j + 1) fun i => decide (fac F i = ((v : Int), x))) = true by rw [Hsu.out]; rfl)
              go_wp2
              go_roundw
              case rel => exact ⟨j + 1, by omega, by go_num, by rw [Hr.out], by first | exact hbx.alloc hbxz _ | exact (hbx.alloc hbxz _).drew | exact below_dN (hbx.alloc hbxz _) _⟩
              case measure => simp [intOf]; omega
          · obtain rfl : j = F.length := by omega
            have hall : (anyB F.length fun i => decide (fac F i = ((v : Int), x))) = true := by
              obtain ⟨i, hi, e⟩ := mem_fac Hmem.out
              exact anyB_true.2 ⟨i, hi, by rw [e]; simp⟩
            rw [hall]
            clear hall
            go_wp2
            go_roundw
            case rel => exact ⟨k + 1, by omega, by go_num, by rw [Hg.out], hb77.trans (hbx.mono hb77.size)⟩
            case measure => simp [intOf]; omega
    · obtain rfl : k = t.goal.length := by omega
      cases e7 : gB t s t.goal.length
      · go_wp2
        go_ret
        exact ⟨rfl, hbwr⟩
      · have hF0 : F = [] := Hno.out (fun i hi => by
          unfold gB at e7
          rw [Bool.not_eq_true', anyB_false] at e7
          simpa using e7 i hi)
        subst hF0
        simp only [List.length_nil]
        go_wp2
        go_ret
        exact ⟨rfl, hbwr⟩

end Go.Proofs.Ytenmeiplglbafaa

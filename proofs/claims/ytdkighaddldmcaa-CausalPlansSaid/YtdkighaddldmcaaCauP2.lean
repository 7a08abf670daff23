/- The law CausalPlans. -/
import Derived.Test.YtdkighaddldmcaaU8
import Derived.Test.YtdkighaddldmcaaResB
import Derived.Test.YtdkighaddldmcaaCauW
namespace Go.Proofs.Ytdkighaddldmcaa
set_option linter.unusedSimpArgs false
set_option linter.unusedVariables false
open Go Go.RowKit
set_option linter.unusedVariables false

/-- What the walk through the law needs of the restricted task. -/
structure Rst (t R : Tsk) (L : List Int) : Prop where
  chk : chkC R = 0
  len : L.length = t.vars.length
  ops : R.ops.length = t.ops.length
  ini : R.init = prj t t.init
  goal : ∀ s : List Int, s.length = t.vars.length → hoB R.goal (prj t s) = hoB t.goal s
  down : ∀ s : List Int, s.length = t.vars.length → ∀ k, k < t.ops.length → hoB (opr t.ops k).pre s = true → hoB (opr R.ops k).pre (prj t s) = true
  up : ∀ s : List Int, s.length = t.vars.length → ∀ k, k < t.ops.length → 0 < (opr R.ops k).effs.length → hoB (opr R.ops k).pre (prj t s) = hoB (opr t.ops k).pre s
  nxt : ∀ s : List Int, s.length = t.vars.length → ∀ k, k < t.ops.length → nxt R (prj t s) k = prj t (nxt t s k)
  st : ∀ s : List Int, stB t.vars s = true → stB R.vars (prj t s) = true
  tov : ∀ v, v < t.vars.length → (nth L v = -1) ∨ ∃ c : Nat, nth L v = (c : Int) ∧ ∀ s : List Int, c < (prj t s).length ∧ nth (prj t s) c = nth s v
theorem rst_of {t : Tsk} (h : chkC t = 0) : Rst t (resT t) (resTo t) :=
  have hr := right_of h
  { chk := good_res h, len := toN_len _ _, ops := (rel_len hr).2, ini := rfl, goal := fun s hs => goal_same hr hs, down := fun s hs k hk => app_down hr hs hk, up := fun s hs k hk => app_up hr hs hk
    nxt := fun s hs k hk => nxt_res hr hs hk, st := fun s hs => st_res rfl hs
    tov := fun v hv => by
      have ht := to_rel (t := t) hv
      cases hf : relB t v
      · rw [hf] at ht; exact .inl (by rw [ht]; rfl)
      · rw [hf, if_pos rfl] at ht
        exact .inr ⟨_, ht, fun s => ⟨(prj_nth hv hf).2, (prj_nth hv hf).1⟩⟩ }

set_option maxRecDepth 100000 in
set_option maxHeartbeats 16000000 in
theorem causalPlans_any (t : Tsk) (p : Lies) (l : List Int) (A : Option Addr) (c : Nat) (w : World) (ht : TaskAt w w.heap.size t p) (hl : U8At w w.heap.size A l) (hi : p.ai = none → p.ci = 0) :
    Calls Try.prog 7 #[TaskV t p, .slice A l.length c] w fun e w' => e = .returned (.bool true) ∧ Below w.heap.size w w' := by
  have k0 := fun w1 => awake39_any w1
  have k1 := fun w1 (hb : Below w.heap.size w w1) => small_any t p w1 (ht.up hb)
  have k2 := fun w1 h (hb : Below w.heap.size w w1) => restrict_any t p w1 (ht.up hb) h
  have k8 := fun w1 s S d k (hb : Below w.heap.size w w1) => bapply_any t p s S d k w1 (ht.up hb)
  have l1 := hl.1
  have l4 := ht.ops.len
  obtain ⟨av, ai, ag, ao, cv, ci, cg, co⟩ := p
  unfold TaskV at k1 k2 k8 ⊢
  dsimp only at *
  cases e1 : smB t
  · rw [e1] at k1
    clear k2 k8
    go_enter Try.func7, Try.ntmps7
    go_wp2_with fail; refine (k1 _ (by repeat (first | exact Below.refl _ _ | refine below_dN ?_ _ | refine Below.drew ?_ | refine Below.alloc ?_ (by first | omega | (simp; done) | (simp; omega)) _ | refine Below.setCell ?_ (by first | omega | (simp; done) | (simp; omega)) _ | refine below_step (by assumption) (by first | omega | (simp; done) | (simp; omega)) ?_))).mono ?_; rintro e w1 ⟨rfl, hb1⟩; obtain ⟨hc1, hf1, hz1, hlt1, hle1⟩ := cellsIf hb1 (by (try simp); exact rfl); (try have : w.heap.size < w1.heap.size := (by omega)); (try have : w.heap.size < w1.heap.size + 1 := (by omega)); (try have : w.heap.size < w1.heap.size + 1 + 1 := (by omega)); (try have : w.heap.size + 1 < w1.heap.size := (by omega)); (try have : w.heap.size + 1 < w1.heap.size + 1 := (by omega)); (try have : w.heap.size + 1 < w1.heap.size + 1 + 1 := (by omega)); (try have : w.heap.size + 1 + 1 < w1.heap.size := (by omega)); (try have : w.heap.size + 1 + 1 < w1.heap.size + 1 := (by omega)); (try have : w.heap.size + 1 + 1 < w1.heap.size + 1 + 1 := (by omega))
    go_wp2_with fail; refine (k0 _).mono ?_; rintro e w2 ⟨rfl, hb2⟩; obtain ⟨hc2, hf2, hz2, hlt2, hle2⟩ := cellsIf hb2 (by (try simp); exact rfl); (try have : w.heap.size < w2.heap.size := (by omega)); (try have : w.heap.size < w2.heap.size + 1 := (by omega)); (try have : w.heap.size < w2.heap.size + 1 + 1 := (by omega)); (try have : w.heap.size + 1 < w2.heap.size := (by omega)); (try have : w.heap.size + 1 < w2.heap.size + 1 := (by omega)); (try have : w.heap.size + 1 < w2.heap.size + 1 + 1 := (by omega)); (try have : w.heap.size + 1 + 1 < w2.heap.size := (by omega)); (try have : w.heap.size + 1 + 1 < w2.heap.size + 1 := (by omega)); (try have : w.heap.size + 1 + 1 < w2.heap.size + 1 + 1 := (by omega)); (try have : w1.heap.size < w2.heap.size := (by omega)); (try have : w1.heap.size < w2.heap.size + 1 := (by omega)); (try have : w1.heap.size < w2.heap.size + 1 + 1 := (by omega)); (try have : w1.heap.size + 1 < w2.heap.size := (by omega)); (try have : w1.heap.size + 1 < w2.heap.size + 1 := (by omega)); (try have : w1.heap.size + 1 < w2.heap.size + 1 + 1 := (by omega)); (try have : w1.heap.size + 1 + 1 < w2.heap.size := (by omega)); (try have : w1.heap.size + 1 + 1 < w2.heap.size + 1 := (by omega)); (try have : w1.heap.size + 1 + 1 < w2.heap.size + 1 + 1 := (by omega))
    go_wp2
    go_ret
    exact ⟨rfl, by repeat (first | exact Below.refl _ _ | refine below_dN ?_ _ | refine Below.drew ?_ | refine Below.alloc ?_ (by first | omega | (simp; done) | (simp; omega)) _ | refine Below.setCell ?_ (by first | omega | (simp; done) | (simp; omega)) _ | refine below_step (by assumption) (by first | omega | (simp; done) | (simp; omega)) ?_)⟩
  rw [e1] at k1
  have hs := small_of e1
  by_cases n0 : t.ops.length = 0
  · have e0 : ((t.ops.length : Int) == 0) = true := by simp [n0]
    clear k2 k8 hs e1 n0 l4
    go_enter Try.func7, Try.ntmps7
    go_wp2_with fail; refine (k1 _ (by repeat (first | exact Below.refl _ _ | refine below_dN ?_ _ | refine Below.drew ?_ | refine Below.alloc ?_ (by first | omega | (simp; done) | (simp; omega)) _ | refine Below.setCell ?_ (by first | omega | (simp; done) | (simp; omega)) _ | refine below_step (by assumption) (by first | omega | (simp; done) | (simp; omega)) ?_))).mono ?_; rintro e w1 ⟨rfl, hb1⟩; obtain ⟨hc1, hf1, hz1, hlt1, hle1⟩ := cellsIf hb1 (by (try simp); exact rfl); (try have : w.heap.size < w1.heap.size := (by omega)); (try have : w.heap.size < w1.heap.size + 1 := (by omega)); (try have : w.heap.size < w1.heap.size + 1 + 1 := (by omega)); (try have : w.heap.size + 1 < w1.heap.size := (by omega)); (try have : w.heap.size + 1 < w1.heap.size + 1 := (by omega)); (try have : w.heap.size + 1 < w1.heap.size + 1 + 1 := (by omega)); (try have : w.heap.size + 1 + 1 < w1.heap.size := (by omega)); (try have : w.heap.size + 1 + 1 < w1.heap.size + 1 := (by omega)); (try have : w.heap.size + 1 + 1 < w1.heap.size + 1 + 1 := (by omega))
    go_wp2_with fail; refine (k0 _).mono ?_; rintro e w2 ⟨rfl, hb2⟩; obtain ⟨hc2, hf2, hz2, hlt2, hle2⟩ := cellsIf hb2 (by (try simp); exact rfl); (try have : w.heap.size < w2.heap.size := (by omega)); (try have : w.heap.size < w2.heap.size + 1 := (by omega)); (try have : w.heap.size < w2.heap.size + 1 + 1 := (by omega)); (try have : w.heap.size + 1 < w2.heap.size := (by omega)); (try have : w.heap.size + 1 < w2.heap.size + 1 := (by omega)); (try have : w.heap.size + 1 < w2.heap.size + 1 + 1 := (by omega)); (try have : w.heap.size + 1 + 1 < w2.heap.size := (by omega)); (try have : w.heap.size + 1 + 1 < w2.heap.size + 1 := (by omega)); (try have : w.heap.size + 1 + 1 < w2.heap.size + 1 + 1 := (by omega)); (try have : w1.heap.size < w2.heap.size := (by omega)); (try have : w1.heap.size < w2.heap.size + 1 := (by omega)); (try have : w1.heap.size < w2.heap.size + 1 + 1 := (by omega)); (try have : w1.heap.size + 1 < w2.heap.size := (by omega)); (try have : w1.heap.size + 1 < w2.heap.size + 1 := (by omega)); (try have : w1.heap.size + 1 < w2.heap.size + 1 + 1 := (by omega)); (try have : w1.heap.size + 1 + 1 < w2.heap.size := (by omega)); (try have : w1.heap.size + 1 + 1 < w2.heap.size + 1 := (by omega)); (try have : w1.heap.size + 1 + 1 < w2.heap.size + 1 + 1 := (by omega))
    go_wp2
    go_ret
    exact ⟨rfl, by repeat (first | exact Below.refl _ _ | refine below_dN ?_ _ | refine Below.drew ?_ | refine Below.alloc ?_ (by first | omega | (simp; done) | (simp; omega)) _ | refine Below.setCell ?_ (by first | omega | (simp; done) | (simp; omega)) _ | refine below_step (by assumption) (by first | omega | (simp; done) | (simp; omega)) ?_)⟩
  have e0 : ((t.ops.length : Int) == 0) = false := by simp; exact fun h => n0 (by rw [h]; rfl)
  by_cases n1 : (60 : Int) < (l.length : Int)
  · clear k2 k8 hs e1
    go_enter Try.func7, Try.ntmps7
    go_wp2_with fail; refine (k1 _ (by repeat (first | exact Below.refl _ _ | refine below_dN ?_ _ | refine Below.drew ?_ | refine Below.alloc ?_ (by first | omega | (simp; done) | (simp; omega)) _ | refine Below.setCell ?_ (by first | omega | (simp; done) | (simp; omega)) _ | refine below_step (by assumption) (by first | omega | (simp; done) | (simp; omega)) ?_))).mono ?_; rintro e w1 ⟨rfl, hb1⟩; obtain ⟨hc1, hf1, hz1, hlt1, hle1⟩ := cellsIf hb1 (by (try simp); exact rfl); (try have : w.heap.size < w1.heap.size := (by omega)); (try have : w.heap.size < w1.heap.size + 1 := (by omega)); (try have : w.heap.size < w1.heap.size + 1 + 1 := (by omega)); (try have : w.heap.size + 1 < w1.heap.size := (by omega)); (try have : w.heap.size + 1 < w1.heap.size + 1 := (by omega)); (try have : w.heap.size + 1 < w1.heap.size + 1 + 1 := (by omega)); (try have : w.heap.size + 1 + 1 < w1.heap.size := (by omega)); (try have : w.heap.size + 1 + 1 < w1.heap.size + 1 := (by omega)); (try have : w.heap.size + 1 + 1 < w1.heap.size + 1 + 1 := (by omega))
    go_wp2_with fail; refine (k0 _).mono ?_; rintro e w2 ⟨rfl, hb2⟩; obtain ⟨hc2, hf2, hz2, hlt2, hle2⟩ := cellsIf hb2 (by (try simp); exact rfl); (try have : w.heap.size < w2.heap.size := (by omega)); (try have : w.heap.size < w2.heap.size + 1 := (by omega)); (try have : w.heap.size < w2.heap.size + 1 + 1 := (by omega)); (try have : w.heap.size + 1 < w2.heap.size := (by omega)); (try have : w.heap.size + 1 < w2.heap.size + 1 := (by omega)); (try have : w.heap.size + 1 < w2.heap.size + 1 + 1 := (by omega)); (try have : w.heap.size + 1 + 1 < w2.heap.size := (by omega)); (try have : w.heap.size + 1 + 1 < w2.heap.size + 1 := (by omega)); (try have : w.heap.size + 1 + 1 < w2.heap.size + 1 + 1 := (by omega)); (try have : w1.heap.size < w2.heap.size := (by omega)); (try have : w1.heap.size < w2.heap.size + 1 := (by omega)); (try have : w1.heap.size < w2.heap.size + 1 + 1 := (by omega)); (try have : w1.heap.size + 1 < w2.heap.size := (by omega)); (try have : w1.heap.size + 1 < w2.heap.size + 1 := (by omega)); (try have : w1.heap.size + 1 < w2.heap.size + 1 + 1 := (by omega)); (try have : w1.heap.size + 1 + 1 < w2.heap.size := (by omega)); (try have : w1.heap.size + 1 + 1 < w2.heap.size + 1 := (by omega)); (try have : w1.heap.size + 1 + 1 < w2.heap.size + 1 + 1 := (by omega))
    go_wp2
    go_ret
    exact ⟨rfl, by repeat (first | exact Below.refl _ _ | refine below_dN ?_ _ | refine Below.drew ?_ | refine Below.alloc ?_ (by first | omega | (simp; done) | (simp; omega)) _ | refine Below.setCell ?_ (by first | omega | (simp; done) | (simp; omega)) _ | refine below_step (by assumption) (by first | omega | (simp; done) | (simp; omega)) ?_)⟩
  have hno : (0 : Int) < (t.ops.length : Int) := by omega
  have hnl : (t.ops.length : Int) ≤ 20 := by have := hs.no; omega
  have k4 := fun w1 => k2 w1 hs.chk
  unfold ResRet at k4
  have hrs := rst_of hs.chk
  obtain ⟨R, hR⟩ : ∃ R, resT t = R := ⟨_, rfl⟩
  obtain ⟨L, hL⟩ : ∃ L, resTo t = L := ⟨_, rfl⟩
  rw [hR, hL] at k4 hrs
  have HS := Lib.hid hs
  have HRS := Lib.hid hrs
  have K2 := Lib.hid k4
  have K8 := Lib.hid k8
  have ec : ((L.length : Int) != (t.vars.length : Int)) = false := by have := hrs.len; simp [this]
  have ed : ((R.ops.length : Int) != (t.ops.length : Int)) = false := by have := hrs.ops; simp [this]
  have Hed := Lib.hid ed
  clear k2 k4 k8 hR hL hs e1 hrs n0 ed
  go_enter Try.func7, Try.ntmps7
  go_wp2_with fail; refine (k1 _ (by repeat (first | exact Below.refl _ _ | refine below_dN ?_ _ | refine Below.drew ?_ | refine Below.alloc ?_ (by first | omega | (simp; done) | (simp; omega)) _ | refine Below.setCell ?_ (by first | omega | (simp; done) | (simp; omega)) _ | refine below_step (by assumption) (by first | omega | (simp; done) | (simp; omega)) ?_))).mono ?_; rintro e w1 ⟨rfl, hb1⟩; obtain ⟨hc1, hf1, hz1, hlt1, hle1⟩ := cellsIf hb1 (by (try simp); exact rfl); (try have : w.heap.size < w1.heap.size := (by omega)); (try have : w.heap.size < w1.heap.size + 1 := (by omega)); (try have : w.heap.size < w1.heap.size + 1 + 1 := (by omega)); (try have : w.heap.size + 1 < w1.heap.size := (by omega)); (try have : w.heap.size + 1 < w1.heap.size + 1 := (by omega)); (try have : w.heap.size + 1 < w1.heap.size + 1 + 1 := (by omega)); (try have : w.heap.size + 1 + 1 < w1.heap.size := (by omega)); (try have : w.heap.size + 1 + 1 < w1.heap.size + 1 := (by omega)); (try have : w.heap.size + 1 + 1 < w1.heap.size + 1 + 1 := (by omega))
  have hbx1 : Boxed w1 w.heap.size t ⟨av, ai, ag, ao, cv, ci, cg, co⟩ := Boxed.up (by constructor <;> simp) hb1
  have hbw1 : Below w.heap.size w w1 := by repeat (first | exact Below.refl _ _ | refine below_dN ?_ _ | refine Below.drew ?_ | refine Below.alloc ?_ (by first | omega | (simp; done) | (simp; omega)) _ | refine Below.setCell ?_ (by first | omega | (simp; done) | (simp; omega)) _ | refine below_step (by assumption) (by first | omega | (simp; done) | (simp; omega)) ?_)
  go_wp2_with fail; refine (k0 _).mono ?_; rintro e w2 ⟨rfl, hb2⟩; obtain ⟨hc2, hf2, hz2, hlt2, hle2⟩ := cellsIf hb2 (by (try simp); exact rfl); (try have : w.heap.size < w2.heap.size := (by omega)); (try have : w.heap.size < w2.heap.size + 1 := (by omega)); (try have : w.heap.size < w2.heap.size + 1 + 1 := (by omega)); (try have : w.heap.size + 1 < w2.heap.size := (by omega)); (try have : w.heap.size + 1 < w2.heap.size + 1 := (by omega)); (try have : w.heap.size + 1 < w2.heap.size + 1 + 1 := (by omega)); (try have : w.heap.size + 1 + 1 < w2.heap.size := (by omega)); (try have : w.heap.size + 1 + 1 < w2.heap.size + 1 := (by omega)); (try have : w.heap.size + 1 + 1 < w2.heap.size + 1 + 1 := (by omega)); (try have : w1.heap.size < w2.heap.size := (by omega)); (try have : w1.heap.size < w2.heap.size + 1 := (by omega)); (try have : w1.heap.size < w2.heap.size + 1 + 1 := (by omega)); (try have : w1.heap.size + 1 < w2.heap.size := (by omega)); (try have : w1.heap.size + 1 < w2.heap.size + 1 := (by omega)); (try have : w1.heap.size + 1 < w2.heap.size + 1 + 1 := (by omega)); (try have : w1.heap.size + 1 + 1 < w2.heap.size := (by omega)); (try have : w1.heap.size + 1 + 1 < w2.heap.size + 1 := (by omega)); (try have : w1.heap.size + 1 + 1 < w2.heap.size + 1 + 1 := (by omega))
  have hbx2 := hbx1.up hb2
  have hbw2 := hbw1.trans (hb2.mono hbw1.size)
  have z2 := hbw2.size
  clear hc1 hc2 hf1 hf2 hlt1 hlt2 hle1 hle2 hz1 hz2 hb1 hb2 hbx1 hbw1
  obtain ⟨z0, y0, y1, y2, y3⟩ := id hbx2
  dsimp only at y0 y1 y2 y3
  go_wp2_with fail
  refine (K2.out _ hbw2).mono ?_
  rintro e w3 ⟨⟨⟨q0, q1, q2, q3, d0, d1, d2, d3⟩, AT, ct, he, ht3, hi3, zT, zI⟩, hb3⟩
  (try rw [if_pos rfl] at he)
  subst he
  unfold TaskV
  dsimp only
  have hbx3 := hbx2.up hb3
  have hbw3 := hbw2.trans (hb3.mono z2)
  have z3 := hbw3.size
  have k5 := fun w1 (hb : Below w3.heap.size w3 w1) => good_any R ⟨q0, q1, q2, q3, d0, d1, d2, d3⟩ w1 (ht3.up hb)
  have k9 := fun w1 s S d k (hb : Below w3.heap.size w3 w1) => bapply_any R ⟨q0, q1, q2, q3, d0, d1, d2, d3⟩ s S d k w1 (ht3.up hb)
  have kH := fun w1 s S d (hb : Below w3.heap.size w3 w1) => bholds_any R.goal s q2 S d2 d w1 (ht3.goal.up hb)
  unfold TaskV at k5 k9
  dsimp only at k5 k9 kH
  rw [(goT_chk R).2 HRS.out.chk] at k5
  have K5 := Lib.hid k5
  have K9 := Lib.hid k9
  have KH := Lib.hid kH
  have HT3 := Lib.hid ht3
  have HI3 := Lib.hid hi3
  clear z0 y0 y1 y2 y3 hbx2 hb3 ht3 hi3 k5 k9 kH
  obtain ⟨z0, y0, y1, y2, y3⟩ := id hbx3
  dsimp only at y0 y1 y2 y3
  have ed := Hed.out
  go_wp2_with fail
  refine (K5.out _ (by repeat (first | exact Below.refl _ _ | refine below_dN ?_ _ | refine Below.drew ?_ | refine Below.alloc ?_ (by first | omega | (simp; done) | (simp; omega)) _ | refine Below.setCell ?_ (by first | omega | (simp; done) | (simp; omega)) _ | refine below_step (by assumption) (by first | omega | (simp; done) | (simp; omega)) ?_))).mono ?_
  rintro e w5 ⟨rfl, hb5⟩
  have hb35 : Below w3.heap.size w3 w5 := by repeat (first | exact Below.refl _ _ | refine below_dN ?_ _ | refine Below.drew ?_ | refine Below.alloc ?_ (by first | omega | (simp; done) | (simp; omega)) _ | refine Below.setCell ?_ (by first | omega | (simp; done) | (simp; omega)) _ | refine below_step (by assumption) (by first | omega | (simp; done) | (simp; omega)) ?_)
  have hbx5 := hbx3.up hb35
  have hbr5 : Box4 w5 w3.heap.size (.slice q0 R.vars.length d0) (.slice q1 R.init.length d1) (.slice q2 R.goal.length d2) (.slice q3 R.ops.length d3) := Box4.up (Box4.new w3 26 _ _ _ _) hb5
  have hbw5 := hbw3.trans (hb35.mono z3)
  have z5 := hbw5.size
  have z35 := hbr5.lt
  clear z0 y0 y1 y2 y3 hbx3 hb5
  obtain ⟨z0, y0, y1, y2, y3⟩ := id hbx5
  obtain ⟨g0, g1, g2, g3, g4, g5⟩ := id hbr5
  dsimp only at y0 y1 y2 y3
  go_wp2_with fail
  go_quiet (fail)
  clear ed
  -- LOOPS
  go_wp2
  have hLs : L.length ≤ 64 := by have := HRS.out.len; have := HS.out.nv; omega
  clear z0 y0 y1 y2 y3 g0 g1 g2 g3 g4 g5
  go_loopw [8, 9, 74] (fun v8 v9 i wr => ∃ (k : Nat) (s : List Int), k ≤ l.length ∧ i = .int .i64 k ∧ GotInts wr v8 s ∧ GotInts wr v9 (prj t s) ∧ stB t.vars s = true ∧ Below w5.heap.size w5 wr) (fun _ _ i _ => l.length - (intOf i).toNat)
  case atStart => exact ⟨0, t.init, by omega, rfl, ⟨ai, ci, rfl, hi, ht.init.up (below_dN hbw5 nq)⟩, by rw [← HRS.out.ini]; exact ⟨q1, d1, rfl, zI, HT3.out.init.up (below_dN hb35 nq)⟩, HS.out.right.init, below_dN (Below.refl _ _) nq⟩
  case round =>
    obtain ⟨k, s, hk, rfl, ⟨A8, c8, rfl, z8, h8⟩, ⟨A9, c9, rfl, z9, h9⟩, hst, hbel⟩ := hrel
    obtain ⟨wt, rfl⟩ : ∃ wt : World, wt = wr := ⟨_, rfl⟩
    have Hst := Lib.hid hst
    clear hst
    have hbw := hbw5.trans (hbel.mono z5)
    have hb3r := hb35.trans (hbel.mono hb35.size)
    have hbx := hbx5.up hbel
    have hbr := hbr5.up hbel
    obtain ⟨z0, y0, y1, y2, y3⟩ := id hbx
    obtain ⟨g0, g1, g2, g3, g4, g5⟩ := id hbr
    dsimp only at y0 y1 y2 y3
    by_cases hlt : k < l.length
    · obtain ⟨b, o, ea, hb, hc⟩ := hl.at_ hlt
      subst ea
      have d1' := (hbw.cell (p := ⟨b, o + k, none⟩) hb).trans (hc k hlt).1
      have gx := (hc k hlt).2
      have gb : b < wt.heap.size := by have := hbw.size; omega
      have k0' : (0 : Int) ≤ (k : Int) := by omega
      have k1' : (k : Int) < (l.length : Int) := by omega
      obtain ⟨x, hx⟩ : ∃ x, nth l k = x := ⟨_, rfl⟩
      rw [hx] at d1' gx
      obtain ⟨op, hop⟩ : ∃ op : Nat, x % (t.ops.length : Int) = (op : Int) := ⟨(x % (t.ops.length : Int)).toNat, by have := Int.emod_nonneg x (show (t.ops.length : Int) ≠ 0 by omega); omega⟩
      have hopl : op < t.ops.length := by have := Int.emod_lt_of_pos x hno; omega
      have hopR : op < R.ops.length := by rw [HRS.out.ops]; exact hopl
      have o0 : (0 : Int) ≤ (op : Int) := by omega
      have o1 : (op : Int) < (R.ops.length : Int) := by omega
      have hrem : x.tmod (t.ops.length : Int) = x % (t.ops.length : Int) := IntWalk.rem_in _ _ gx.1
      have hnz : (t.ops.length : Int) ≠ 0 := by omega
      clear hc hx
      obtain ⟨b1, hb1⟩ : ∃ b, hoB (opr t.ops op).pre s = b := ⟨_, rfl⟩
      obtain ⟨b2, hb2⟩ : ∃ b, hoB (opr R.ops op).pre (prj t s) = b := ⟨_, rfl⟩
      have HB1 := Lib.hid hb1
      have HB2 := Lib.hid hb2
      have hmt := chk0 HS.out.chk
      have hmR := chk0 HRS.out.chk
      have k8 := K8.out wt s A8 c8 op hbw h8 z8 hmt.1 hmt.2.2.1 Hst.out hopl
      have k9 := fun w1 (hb : Below wt.heap.size wt w1) => K9.out w1 (prj t s) A9 c9 op (hb3r.trans (hb.mono hb3r.size)) (h9.up hb) z9 hmR.1 hmR.2.2.1 (HRS.out.st s Hst.out) hopR
      rw [hb1] at k8
      rw [hb2] at k9
      obtain ⟨lN, hlN⟩ : ∃ l, (if b1 = true then nxt t s op else []) = l := ⟨_, rfl⟩
      obtain ⟨lM, hlM⟩ : ∃ l, (if b2 = true then nxt R (prj t s) op else []) = l := ⟨_, rfl⟩
      rw [hlN] at k8
      rw [hlM] at k9
      have HlN := Lib.hid hlN
      have HlM := Lib.hid hlM
      clear hb1 hb2 hmt hmR hlN hlM
      go_wp2_with fail
      refine k8.mono ?_
      rintro e w8 ⟨⟨vN, rfl, AN, cN, rfl, zN, hN⟩, hb8⟩
      have hbx8 := hbx.up hb8
      have hbr8 := hbr.up hb8
      have h8' := h8.up hb8
      have k9' := k9 w8 hb8
      clear z0 y0 y1 y2 y3 g0 g1 g2 g3 g4 g5 k8 k9
      obtain ⟨z0, y0, y1, y2, y3⟩ := id hbx8
      obtain ⟨g0, g1, g2, g3, g4, g5⟩ := id hbr8
      dsimp only at y0 y1 y2 y3
      go_wp2_with fail
      refine k9'.mono ?_
      rintro e w9 ⟨⟨vM, rfl, AM, cM, rfl, zM, hM⟩, hb9⟩
      have hb89 : Below wt.heap.size wt w9 := hb8.trans (hb9.mono hb8.size)
      have hb39 := hb3r.trans (hb89.mono hb3r.size)
      have hb59 := hbel.trans (hb89.mono hbel.size)
      have hbx9 := hbx.up hb89
      have hbr9 := hbr.up hb89
      have h8'' := h8.up hb89
      have h9'' := h9.up hb89
      have hN' := hN.up hb9
      clear z0 y0 y1 y2 y3 g0 g1 g2 g3 g4 g5 k9' hbx8 hbr8 h8' hN
      obtain ⟨z0, y0, y1, y2, y3⟩ := id hbx9
      obtain ⟨g0, g1, g2, g3, g4, g5⟩ := id hbr9
      dsimp only at y0 y1 y2 y3
      cases b1 <;> cases b2
      · have h1 := h8''
        go_wp2
        go_loopw [125] (fun i wx => ∃ v : Nat, v ≤ L.length ∧ i = .int .i64 v ∧ Below w9.heap.size w9 wx) (fun i _ => L.length - (intOf i).toNat)
        case atStart => exact ⟨0, by omega, rfl, Below.refl _ _⟩
        case round =>
          obtain ⟨v, hv, rfl, hbq⟩ := hrel
          have hbqz := hbq.size
          by_cases hlv : v < L.length
          · have hb3q := hb39.trans (hbq.mono hb39.size)
            obtain ⟨bt, ot, et, hbt, hct⟩ := HI3.out.at_ hlv
            subst et
            have dt := (hb3q.cell (p := ⟨bt, ot + v, none⟩) hbt).trans (hct v hlv)
            have gt3 : bt < wr.heap.size := by have := hb3q.size; omega
            have v0 : (0 : Int) ≤ (v : Int) := by omega
            have v1 : (v : Int) < (L.length : Int) := by omega
            have hvn : v < t.vars.length := by rw [← HRS.out.len]; exact hlv
            clear hct
            rcases HRS.out.tov v hvn with hneg | ⟨cv, hcv, hall⟩
            · rw [hneg] at dt
              have l0 : ¬ ((prj t s).length : Int) ≤ -1 := by omega
              have l2 : decide (((prj t s).length : Int) ≤ -1) = false := by simp; omega
              go_wp2_with fail
              go_quiet (fail)
              go_wp2
              go_roundw
              case rel => first | exact ⟨v + 1, by omega, by go_num, by first | exact hbq | exact below_dN hbq _⟩ | ((repeat apply Exists.intro); exact ⟨⟨v + 1, by omega, by go_num, by first | exact hbq | exact below_dN hbq _⟩, rfl⟩)
              case measure => simp [intOf]; omega
            · rw [hcv] at dt
              obtain ⟨hcl, hce⟩ := hall (s)
              have hsv : v < (s).length := by rw [stB_len Hst.out]; exact hvn
              obtain ⟨b8, o8, e8, hb8', hc8⟩ := (h8'').at_ hsv
              obtain ⟨b9, o9, e9, hb9', hc9⟩ := (h9'').at_ hcl
              subst e8 e9
              have f8 := (hbq.cell (p := ⟨b8, o8 + v, none⟩) hb8').trans (hc8 v hsv)
              have f9 := (hbq.cell (p := ⟨b9, o9 + cv, none⟩) hb9').trans (hc9 cv hcl)
              rw [hce] at f9
              have c0 : (0 : Int) ≤ (cv : Int) := by omega
              have c1 : (cv : Int) < ((prj t s).length : Int) := by omega
              have c2 : decide (((prj t s).length : Int) ≤ (cv : Int)) = false := by simp; omega
              have c3 : decide ((prj t s).length ≤ cv) = false := by simp; omega
              have v2 : (v : Int) < ((s).length : Int) := by omega
              have g8 : b8 < wr.heap.size := by omega
              have g9 : b9 < wr.heap.size := by omega
              have hcd : decide ((0 : Int) ≤ (cv : Int)) = true := by simp
              clear hc8 hc9 hcl hce hall
              go_wp2_with fail
              go_quiet (fail)
              go_wp2
              go_roundw
              case rel => first | exact ⟨v + 1, by omega, by go_num, by first | exact hbq | exact below_dN hbq _⟩ | ((repeat apply Exists.intro); exact ⟨⟨v + 1, by omega, by go_num, by first | exact hbq | exact below_dN hbq _⟩, rfl⟩)
              case measure => simp [intOf]; omega
          · go_wp2
            go_roundw
            case rel => exact ⟨k + 1, s, by omega, by go_num, ⟨A8, c8, rfl, z8, (h8'').up hbq⟩, ⟨A9, c9, rfl, z9, (h9'').up hbq⟩, Hst.out, hb59.trans (hbq.mono hb59.size)⟩
            case measure => simp [intOf]; omega
      · obtain ⟨be, oe, S', c', T', d', ee, hbe, i0, n1, i1, i2, f2', i3, e3'⟩ := HT3.out.ops.at2 hb39 hopR
        dsimp only at ee
        subst ee
        have ge : be < w9.heap.size := by have := hb39.size; omega
        have hz : ¬ (0 : Int) < ((opr R.ops op).effs.length : Int) := fun h => by
          have := HRS.out.up s (stB_len Hst.out) op hopl (by omega)
          rw [HB1.out, HB2.out] at this
          cases this
        have ez : (opr R.ops op).effs.length = 0 := by omega
        rw [ez] at i3
        clear hz ez
        go_wp2
        go_loopw [125] (fun i wx => ∃ v : Nat, v ≤ L.length ∧ i = .int .i64 v ∧ Below w9.heap.size w9 wx) (fun i _ => L.length - (intOf i).toNat)
        case atStart => exact ⟨0, by omega, rfl, Below.refl _ _⟩
        case round =>
          obtain ⟨v, hv, rfl, hbq⟩ := hrel
          have hbqz := hbq.size
          by_cases hlv : v < L.length
          · have hb3q := hb39.trans (hbq.mono hb39.size)
            obtain ⟨bt, ot, et, hbt, hct⟩ := HI3.out.at_ hlv
            subst et
            have dt := (hb3q.cell (p := ⟨bt, ot + v, none⟩) hbt).trans (hct v hlv)
            have gt3 : bt < wr.heap.size := by have := hb3q.size; omega
            have v0 : (0 : Int) ≤ (v : Int) := by omega
            have v1 : (v : Int) < (L.length : Int) := by omega
            have hvn : v < t.vars.length := by rw [← HRS.out.len]; exact hlv
            clear hct
            rcases HRS.out.tov v hvn with hneg | ⟨cv, hcv, hall⟩
            · rw [hneg] at dt
              have l0 : ¬ ((prj t s).length : Int) ≤ -1 := by omega
              have l2 : decide (((prj t s).length : Int) ≤ -1) = false := by simp; omega
              go_wp2_with fail
              go_quiet (fail)
              go_wp2
              go_roundw
              case rel => first | exact ⟨v + 1, by omega, by go_num, by first | exact hbq | exact below_dN hbq _⟩ | ((repeat apply Exists.intro); exact ⟨⟨v + 1, by omega, by go_num, by first | exact hbq | exact below_dN hbq _⟩, rfl⟩)
              case measure => simp [intOf]; omega
            · rw [hcv] at dt
              obtain ⟨hcl, hce⟩ := hall (s)
              have hsv : v < (s).length := by rw [stB_len Hst.out]; exact hvn
              obtain ⟨b8, o8, e8, hb8', hc8⟩ := (h8'').at_ hsv
              obtain ⟨b9, o9, e9, hb9', hc9⟩ := (h9'').at_ hcl
              subst e8 e9
              have f8 := (hbq.cell (p := ⟨b8, o8 + v, none⟩) hb8').trans (hc8 v hsv)
              have f9 := (hbq.cell (p := ⟨b9, o9 + cv, none⟩) hb9').trans (hc9 cv hcl)
              rw [hce] at f9
              have c0 : (0 : Int) ≤ (cv : Int) := by omega
              have c1 : (cv : Int) < ((prj t s).length : Int) := by omega
              have c2 : decide (((prj t s).length : Int) ≤ (cv : Int)) = false := by simp; omega
              have c3 : decide ((prj t s).length ≤ cv) = false := by simp; omega
              have v2 : (v : Int) < ((s).length : Int) := by omega
              have g8 : b8 < wr.heap.size := by omega
              have g9 : b9 < wr.heap.size := by omega
              have hcd : decide ((0 : Int) ≤ (cv : Int)) = true := by simp
              clear hc8 hc9 hcl hce hall
              go_wp2_with fail
              go_quiet (fail)
              go_wp2
              go_roundw
              case rel => first | exact ⟨v + 1, by omega, by go_num, by first | exact hbq | exact below_dN hbq _⟩ | ((repeat apply Exists.intro); exact ⟨⟨v + 1, by omega, by go_num, by first | exact hbq | exact below_dN hbq _⟩, rfl⟩)
              case measure => simp [intOf]; omega
          · go_wp2
            go_roundw
            case rel => exact ⟨k + 1, s, by omega, by go_num, ⟨A8, c8, rfl, z8, (h8'').up hbq⟩, ⟨A9, c9, rfl, z9, (h9'').up hbq⟩, Hst.out, hb59.trans (hbq.mono hb59.size)⟩
            case measure => simp [intOf]; omega
      · exfalso
        have := HRS.out.down s (stB_len Hst.out) op hopl HB1.out
        rw [HB2.out] at this
        cases this
      · obtain rfl : nxt t s op = lN := by have := HlN.out; rwa [if_pos rfl] at this
        obtain rfl : prj t (nxt t s op) = lM := by have := HlM.out; rwa [if_pos rfl, HRS.out.nxt s (stB_len Hst.out) op hopl] at this
        have Hst2 := Lib.hid (st_nxtR HS.out.right Hst.out hopl)
        go_wp2
        go_loopw [125] (fun i wx => ∃ v : Nat, v ≤ L.length ∧ i = .int .i64 v ∧ Below w9.heap.size w9 wx) (fun i _ => L.length - (intOf i).toNat)
        case atStart => exact ⟨0, by omega, rfl, Below.refl _ _⟩
        case round =>
          obtain ⟨v, hv, rfl, hbq⟩ := hrel
          have hbqz := hbq.size
          by_cases hlv : v < L.length
          · have hb3q := hb39.trans (hbq.mono hb39.size)
            obtain ⟨bt, ot, et, hbt, hct⟩ := HI3.out.at_ hlv
            subst et
            have dt := (hb3q.cell (p := ⟨bt, ot + v, none⟩) hbt).trans (hct v hlv)
            have gt3 : bt < wr.heap.size := by have := hb3q.size; omega
            have v0 : (0 : Int) ≤ (v : Int) := by omega
            have v1 : (v : Int) < (L.length : Int) := by omega
            have hvn : v < t.vars.length := by rw [← HRS.out.len]; exact hlv
            clear hct
            rcases HRS.out.tov v hvn with hneg | ⟨cv, hcv, hall⟩
            · rw [hneg] at dt
              have l0 : ¬ ((prj t (nxt t s op)).length : Int) ≤ -1 := by omega
              have l2 : decide (((prj t (nxt t s op)).length : Int) ≤ -1) = false := by simp; omega
              go_wp2_with fail
              go_quiet (fail)
              go_wp2
              go_roundw
              case rel => first | exact ⟨v + 1, by omega, by go_num, by first | exact hbq | exact below_dN hbq _⟩ | ((repeat apply Exists.intro); exact ⟨⟨v + 1, by omega, by go_num, by first | exact hbq | exact below_dN hbq _⟩, rfl⟩)
              case measure => simp [intOf]; omega
            · rw [hcv] at dt
              obtain ⟨hcl, hce⟩ := hall ((nxt t s op))
              have hsv : v < ((nxt t s op)).length := by rw [stB_len Hst2.out]; exact hvn
              obtain ⟨b8, o8, e8, hb8', hc8⟩ := (hN').at_ hsv
              obtain ⟨b9, o9, e9, hb9', hc9⟩ := (hM).at_ hcl
              subst e8 e9
              have f8 := (hbq.cell (p := ⟨b8, o8 + v, none⟩) hb8').trans (hc8 v hsv)
              have f9 := (hbq.cell (p := ⟨b9, o9 + cv, none⟩) hb9').trans (hc9 cv hcl)
              rw [hce] at f9
              have c0 : (0 : Int) ≤ (cv : Int) := by omega
              have c1 : (cv : Int) < ((prj t (nxt t s op)).length : Int) := by omega
              have c2 : decide (((prj t (nxt t s op)).length : Int) ≤ (cv : Int)) = false := by simp; omega
              have c3 : decide ((prj t (nxt t s op)).length ≤ cv) = false := by simp; omega
              have v2 : (v : Int) < (((nxt t s op)).length : Int) := by omega
              have g8 : b8 < wr.heap.size := by omega
              have g9 : b9 < wr.heap.size := by omega
              have hcd : decide ((0 : Int) ≤ (cv : Int)) = true := by simp
              clear hc8 hc9 hcl hce hall
              go_wp2_with fail
              go_quiet (fail)
              go_wp2
              go_roundw
              case rel => first | exact ⟨v + 1, by omega, by go_num, by first | exact hbq | exact below_dN hbq _⟩ | ((repeat apply Exists.intro); exact ⟨⟨v + 1, by omega, by go_num, by first | exact hbq | exact below_dN hbq _⟩, rfl⟩)
              case measure => simp [intOf]; omega
          · go_wp2
            go_roundw
            case rel => exact ⟨k + 1, (nxt t s op), by omega, by go_num, ⟨AN, cN, rfl, zN, (hN').up hbq⟩, ⟨AM, cM, rfl, zM, (hM).up hbq⟩, Hst2.out, hb59.trans (hbq.mono hb59.size)⟩
            case measure => simp [intOf]; omega
    · have kt := fun w1 (hb : Below wt.heap.size wt w1) => bholds_any t.goal s ag A8 cg c8 w1 (ht.goal.up (hbw.trans (hb.mono hbw.size))) (h8.up hb)
      have kr := fun w1 (hb : Below wt.heap.size wt w1) => KH.out w1 (prj t s) A9 c9 (hb3r.trans (hb.mono hb3r.size)) (h9.up hb)
      rw [HRS.out.goal s (stB_len Hst.out)] at kr
      have Kt := Lib.hid kt
      have Kr := Lib.hid kr
      clear kt kr
      go_wp2_with fail
      refine wp_region_aft (by kernel_rfl) (by kernel_rfl) (by (try simp); exact rfl) ?_; intro haft; (repeat (go_big_quiet_step ((first | (go_at_call 23; with_reducible exact aft_of (Kt.out _ (Aft.below _))) | (go_at_call 23; with_reducible exact aft_of (Kr.out _ (Aft.below _))))))); refine wpQuiet_nil ?_; intro w7 hwx; have hb7 := aft_below hwx; clear hwx; obtain ⟨hc7, hf7, hz7, hlt7, hle7⟩ := cellsIf hb7 (by (try simp); exact rfl); (try have : w.heap.size < w7.heap.size := (by omega)); (try have : w.heap.size < w7.heap.size + 1 := (by omega)); (try have : w.heap.size < w7.heap.size + 1 + 1 := (by omega)); (try have : w.heap.size + 1 < w7.heap.size := (by omega)); (try have : w.heap.size + 1 < w7.heap.size + 1 := (by omega)); (try have : w.heap.size + 1 < w7.heap.size + 1 + 1 := (by omega)); (try have : w.heap.size + 1 + 1 < w7.heap.size := (by omega)); (try have : w.heap.size + 1 + 1 < w7.heap.size + 1 := (by omega)); (try have : w.heap.size + 1 + 1 < w7.heap.size + 1 + 1 := (by omega)); (try have : w1.heap.size < w7.heap.size := (by omega)); (try have : w1.heap.size < w7.heap.size + 1 := (by omega)); (try have : w1.heap.size < w7.heap.size + 1 + 1 := (by omega)); (try have : w1.heap.size + 1 < w7.heap.size := (by omega)); (try have : w1.heap.size + 1 < w7.heap.size + 1 := (by omega)); (try have : w1.heap.size + 1 < w7.heap.size + 1 + 1 := (by omega)); (try have : w1.heap.size + 1 + 1 < w7.heap.size := (by omega)); (try have : w1.heap.size + 1 + 1 < w7.heap.size + 1 := (by omega)); (try have : w1.heap.size + 1 + 1 < w7.heap.size + 1 + 1 := (by omega)); (try have : w2.heap.size < w7.heap.size := (by omega)); (try have : w2.heap.size < w7.heap.size + 1 := (by omega)); (try have : w2.heap.size < w7.heap.size + 1 + 1 := (by omega)); (try have : w2.heap.size + 1 < w7.heap.size := (by omega)); (try have : w2.heap.size + 1 < w7.heap.size + 1 := (by omega)); (try have : w2.heap.size + 1 < w7.heap.size + 1 + 1 := (by omega)); (try have : w2.heap.size + 1 + 1 < w7.heap.size := (by omega)); (try have : w2.heap.size + 1 + 1 < w7.heap.size + 1 := (by omega)); (try have : w2.heap.size + 1 + 1 < w7.heap.size + 1 + 1 := (by omega)); (try have : w3.heap.size < w7.heap.size := (by omega)); (try have : w3.heap.size < w7.heap.size + 1 := (by omega)); (try have : w3.heap.size < w7.heap.size + 1 + 1 := (by omega)); (try have : w3.heap.size + 1 < w7.heap.size := (by omega)); (try have : w3.heap.size + 1 < w7.heap.size + 1 := (by omega)); (try have : w3.heap.size + 1 < w7.heap.size + 1 + 1 := (by omega)); (try have : w3.heap.size + 1 + 1 < w7.heap.size := (by omega)); (try have : w3.heap.size + 1 + 1 < w7.heap.size + 1 := (by omega)); (try have : w3.heap.size + 1 + 1 < w7.heap.size + 1 + 1 := (by omega)); (try have : w4.heap.size < w7.heap.size := (by omega)); (try have : w4.heap.size < w7.heap.size + 1 := (by omega)); (try have : w4.heap.size < w7.heap.size + 1 + 1 := (by omega)); (try have : w4.heap.size + 1 < w7.heap.size := (by omega)); (try have : w4.heap.size + 1 < w7.heap.size + 1 := (by omega)); (try have : w4.heap.size + 1 < w7.heap.size + 1 + 1 := (by omega)); (try have : w4.heap.size + 1 + 1 < w7.heap.size := (by omega)); (try have : w4.heap.size + 1 + 1 < w7.heap.size + 1 := (by omega)); (try have : w4.heap.size + 1 + 1 < w7.heap.size + 1 + 1 := (by omega)); (try have : w5.heap.size < w7.heap.size := (by omega)); (try have : w5.heap.size < w7.heap.size + 1 := (by omega)); (try have : w5.heap.size < w7.heap.size + 1 + 1 := (by omega)); (try have : w5.heap.size + 1 < w7.heap.size := (by omega)); (try have : w5.heap.size + 1 < w7.heap.size + 1 := (by omega)); (try have : w5.heap.size + 1 < w7.heap.size + 1 + 1 := (by omega)); (try have : w5.heap.size + 1 + 1 < w7.heap.size := (by omega)); (try have : w5.heap.size + 1 + 1 < w7.heap.size + 1 := (by omega)); (try have : w5.heap.size + 1 + 1 < w7.heap.size + 1 + 1 := (by omega)); (try have : w6.heap.size < w7.heap.size := (by omega)); (try have : w6.heap.size < w7.heap.size + 1 := (by omega)); (try have : w6.heap.size < w7.heap.size + 1 + 1 := (by omega)); (try have : w6.heap.size + 1 < w7.heap.size := (by omega)); (try have : w6.heap.size + 1 < w7.heap.size + 1 := (by omega)); (try have : w6.heap.size + 1 < w7.heap.size + 1 + 1 := (by omega)); (try have : w6.heap.size + 1 + 1 < w7.heap.size := (by omega)); (try have : w6.heap.size + 1 + 1 < w7.heap.size + 1 := (by omega)); (try have : w6.heap.size + 1 + 1 < w7.heap.size + 1 + 1 := (by omega)); clear haft
      go_wp2
      go_ret
      exact ⟨rfl, hbw.trans (hb7.mono hbw.size)⟩
  -- ENDLOOPS

end Go.Proofs.Ytdkighaddldmcaa
